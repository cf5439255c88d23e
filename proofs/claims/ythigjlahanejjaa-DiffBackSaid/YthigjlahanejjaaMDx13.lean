/- Laid by this claim's own program (myprint) out of the translation: functions that the laws of the group D reach, each as a plain function, with the proof that the Go code comes to it. No condition. -/
import Derived.Test.YthigjlahanejjaaMDx0
import Derived.Test.YthigjlahanejjaaMDx4
import Derived.Test.YthigjlahanejjaaMDx5
import Derived.Test.YthigjlahanejjaaMDx6
import Derived.Test.YthigjlahanejjaaMDx9
namespace Go.Proofs.Ythigjlahanejjaa.MD
open Go.Proofs.Ythigjlahanejjaa.Opening
open Go.RowKit Go.Proofs.YthigjlahanejjaaW.PrintWords Go.Proofs.YthigjlahanejjaaW.PrintLast Go.Proofs.YthigjlahanejjaaW.PrintMore
attribute [local go_sem] max2_int min2_int max_two min_two max_three min_three max_four min_four   -- for this text's walks alone
set_option linter.unusedVariables false
set_option linter.unusedSimpArgs false

/-! ### forebearlaw05_DiffBack: function 5 -/
def forebearlaw05_DiffBack.l0 : Nat → List ByteArray → List ByteArray → List (S46) → List ByteArray → Int → List (S46) → Int → Option (Bool)
 | 0, _, _, _, _, _, _, _ => none
 | k + 1, x0, x1, x5, x7, x8, x9, x10 => if x10 < (x5.length : Int) then (if 0 ≤ x10 then (if x9.length < 2199023255552 then (if (wrap64 ((((rd_T46 x5 x10).f2).length : Int) + (((rd_T46 x5 x10).f3).length : Int))) = 0 then (some false) else (forebearlaw05_DiffBack.l0 k x0 x1 x5 x7 x8 (x9 ++ [(⟨(rd_T46 x5 x10).f1, (rd_T46 x5 x10).f0, (rd_T46 x5 x10).f3, (rd_T46 x5 x10).f2⟩ : S46)]) (wrap64 (x10 + 1)))) else (none)) else (none)) else ((diff_Apply.f k x1 x9).bind fun bt364 => (if x8 = 0 then (if bt364.2 = 0 then ((forebearref03_Same.f k x7 x1).bind fun t368 => (if t368 = true then ((forebearref03_Same.f k bt364.1 x0).bind fun t369 => (some t369)) else (some false))) else (some false)) else (some false)))
def forebearlaw05_DiffBack.f (k : Nat) (l0 : List ByteArray) (l1 : List ByteArray) : Option (Bool) := (forebearlaw05_awake.f k).bind fun t346 => (if t346 = true then ((diff_Hunks.f k l0 l1).bind fun bt347 => (if bt347.2 = 0 then ((diff_Apply.f k l0 bt347.1).bind fun bt351 => (forebearlaw05_DiffBack.l0 k l0 l1 bt347.1 bt351.1 bt351.2 ([] : List (S46)) 0)) else (if bt347.2 = 4 then (if (l0.length : Int) > 256 then (some true) else (some (decide ((l1.length : Int) > 256)))) else (some false)))) else (some false))
theorem forebearlaw05_DiffBack.mono_l : ∀ k, (∀ y0 y1 y2 y3 y4 y5 y6, LeO (forebearlaw05_DiffBack.l0 k y0 y1 y2 y3 y4 y5 y6) (forebearlaw05_DiffBack.l0 (k + 1) y0 y1 y2 y3 y4 y5 y6))
 | 0 => fun _ _ _ _ _ _ _ r h => by simp [forebearlaw05_DiffBack.l0] at h
 | k + 1 => by
  have ih0 := forebearlaw05_DiffBack.mono_l k
  ·intro y0 y1 y2 y3 y4 y5 y6
   unfold forebearlaw05_DiffBack.l0
   repeat' first
   | (with_reducible exact ih0 _ _ _ _ _ _ _)
   | (with_reducible exact diff_Apply.mono _ _ _)
   | (with_reducible exact diff_Hunks.mono _ _ _)
   | (with_reducible exact forebearlaw05_awake.mono _)
   | (with_reducible exact forebearref03_Same.mono _ _ _)
   | (with_reducible exact LeO.refl _)
   | (with_reducible exact LeO.none _)
   | (with_reducible refine LeO.ite ?_ ?_)
   | (with_reducible refine LeO.bind ?_ (fun _ => ?_))
   | exact ih0 _ _ _ _ _ _ _
   | exact diff_Apply.mono _ _ _
   | exact diff_Hunks.mono _ _ _
   | exact forebearlaw05_awake.mono _
   | exact forebearref03_Same.mono _ _ _
   | exact LeO.none _
   | refine LeO.ite ?_ ?_
   | refine LeO.bind ?_ (fun _ => ?_)
theorem forebearlaw05_DiffBack.mono : ∀ a0 a1 k, LeO (forebearlaw05_DiffBack.f k a0 a1) (forebearlaw05_DiffBack.f (k + 1) a0 a1) := by
 intro a0 a1 k
 have ih0 := forebearlaw05_DiffBack.mono_l k
 unfold forebearlaw05_DiffBack.f
 repeat' first
   | (with_reducible exact ih0 _ _ _ _ _ _ _)
   | (with_reducible exact diff_Apply.mono _ _ _)
   | (with_reducible exact diff_Hunks.mono _ _ _)
   | (with_reducible exact forebearlaw05_awake.mono _)
   | (with_reducible exact forebearref03_Same.mono _ _ _)
   | (with_reducible exact LeO.refl _)
   | (with_reducible exact LeO.none _)
   | (with_reducible refine LeO.ite ?_ ?_)
   | (with_reducible refine LeO.bind ?_ (fun _ => ?_))
   | exact ih0 _ _ _ _ _ _ _
   | exact diff_Apply.mono _ _ _
   | exact diff_Hunks.mono _ _ _
   | exact forebearlaw05_awake.mono _
   | exact forebearref03_Same.mono _ _ _
   | exact LeO.none _
   | refine LeO.ite ?_ ?_
   | refine LeO.bind ?_ (fun _ => ?_)
def forebearlaw05_DiffBack.T11 : Bool × List (List Nat × List Nat) := (true, [([], []), ([], []), ([], []), ([1, 2], [1, 2]), ([3], [3]), ([4], [4]), ([], []), ([], []), ([6, 7], [6, 7]), ([8], [8]), ([9], [9]), ([], []), ([], []), ([11, 12], [11, 12]), ([13], [13]), ([14], [14]), ([], []), ([], []), ([16, 17], [16, 17]), ([18], [18]), ([19], [19]), ([5, 10, 15, 20], [5, 10, 15, 20]), ([21], [21]), ([0, 22], [0, 22]), ([23, 23, 0, 1, 2, 3, 4, 5, 6, 7, 8, 9, 10, 11, 12, 13, 14, 15, 16, 17, 18, 19, 20, 21, 22, 23], [0, 23])])
def forebearlaw05_DiffBack.B11 : List Nat := [0, 0, 0, 6, 14, 30, 0, 0, 192, 448, 960, 0, 0, 6144, 14336, 30720, 0, 0, 196608, 458752, 983040, 2097150, 4194302, 8388607, 16777215]
theorem forebearlaw05_DiffBack.tab11 : rtab .any (opsOf Try.f5 11) = forebearlaw05_DiffBack.T11 := by kernel_rfl
theorem forebearlaw05_DiffBack.bits11 : waitsOk forebearlaw05_DiffBack.T11.2 forebearlaw05_DiffBack.B11 = true := by kernel_rfl
def forebearlaw05_DiffBack.T12 : Bool × List (List Nat × List Nat) := (true, [([], []), ([], []), ([0, 1], [0, 1]), ([2], [2]), ([3], [3]), ([4], [4]), ([], []), ([], []), ([6, 7], [6, 7]), ([8], [8]), ([9], [9]), ([10], [10]), ([5, 11], [5, 11]), ([12], [12])])
def forebearlaw05_DiffBack.B12 : List Nat := [0, 0, 3, 7, 15, 31, 0, 0, 192, 448, 960, 1984, 4095, 8191]
theorem forebearlaw05_DiffBack.tab12 : rtab .any (opsOf Try.f5 12) = forebearlaw05_DiffBack.T12 := by kernel_rfl
theorem forebearlaw05_DiffBack.bits12 : waitsOk forebearlaw05_DiffBack.T12.2 forebearlaw05_DiffBack.B12 = true := by kernel_rfl
set_option maxHeartbeats 8000000 in
set_option maxRecDepth 100000 in
theorem forebearlaw05_DiffBack.calls (k : Nat) (A0 : Option Addr) (c0 : Nat) (l0 : List ByteArray) (A1 : Option Addr) (c1 : Nat) (l1 : List ByteArray) (r : Bool) (w : World) (hr0 : Kd.C Kd.string w A0 l0.length l0) (hc0 : l0.length ≤ c0) (hr1 : Kd.C Kd.string w A1 l1.length l1) (hc1 : l1.length ≤ c1) (h : forebearlaw05_DiffBack.f k l0 l1 = some r) :
  Calls Try.prog 5 #[.slice A0 l0.length c0, .slice A1 l1.length c1] w fun e w' => e = .returned (.bool r) ∧ Below w.heap.size w w' := by
 have hu46 := Try.underlying46
 have HR0 := Aside0.mk hr0
 have HC0 := Aside0.mk hc0
 clear hr0 hc0
 have HR1 := Aside0.mk hr1
 have HC1 := Aside0.mk hc1
 clear hr1 hc1
 have HB := Aside0.mk (Below.refl w.heap.size w)
 have H : ((forebearlaw05_awake.f k).bind fun t346 => (if t346 = true then ((diff_Hunks.f k l0 l1).bind fun bt347 => (if bt347.2 = 0 then ((diff_Apply.f k l0 bt347.1).bind fun bt351 => (forebearlaw05_DiffBack.l0 k l0 l1 bt347.1 bt351.1 bt351.2 ([] : List (S46)) 0)) else (if bt347.2 = 4 then (if (l0.length : Int) > 256 then (some true) else (some (decide ((l1.length : Int) > 256)))) else (some false)))) else (some false))) = some r := h
 clear h
 replace H := Option.bind_eq_some_iff.mp H
 obtain ⟨t346, A30, H⟩ := H
 replace H : (if t346 = true then ((diff_Hunks.f k l0 l1).bind fun bt347 => (if bt347.2 = 0 then ((diff_Apply.f k l0 bt347.1).bind fun bt351 => (forebearlaw05_DiffBack.l0 k l0 l1 bt347.1 bt351.1 bt351.2 ([] : List (S46)) 0)) else (if bt347.2 = 4 then (if (l0.length : Int) > 256 then (some true) else (some (decide ((l1.length : Int) > 256)))) else (some false)))) else (some false)) = some r := H
 have A3 := Aside0.mk A30
 clear A30
 by_cases c4 : t346 = true
 ·subst c4
  have H1 : ((diff_Hunks.f k l0 l1).bind fun bt347 => (if bt347.2 = 0 then ((diff_Apply.f k l0 bt347.1).bind fun bt351 => (forebearlaw05_DiffBack.l0 k l0 l1 bt347.1 bt351.1 bt351.2 ([] : List (S46)) 0)) else (if bt347.2 = 4 then (if (l0.length : Int) > 256 then (some true) else (some (decide ((l1.length : Int) > 256)))) else (some false)))) = some r := by rw [if_pos rfl] at H; exact H
  clear H
  have H := H1
  clear H1
  replace H := Option.bind_eq_some_iff.mp H
  obtain ⟨⟨t347, t348⟩, A50, H⟩ := H
  replace H : (if t348 = 0 then ((diff_Apply.f k l0 t347).bind fun bt351 => (forebearlaw05_DiffBack.l0 k l0 l1 t347 bt351.1 bt351.2 ([] : List (S46)) 0)) else (if t348 = 4 then (if (l0.length : Int) > 256 then (some true) else (some (decide ((l1.length : Int) > 256)))) else (some false))) = some r := H
  have A5 := Aside0.mk A50
  clear A50
  by_cases c6 : t348 = 0
  ·rw [if_pos c6] at H
   have c6b0 : (t348 == 0) = true := beq_iff_eq.mpr c6
   have c6b1 : (t348 != 0) = false := bne_eq_false_iff_eq.mpr c6
   clear c6
   replace H := Option.bind_eq_some_iff.mp H
   obtain ⟨⟨t351, t352⟩, A70, H⟩ := H
   replace H : (forebearlaw05_DiffBack.l0 k l0 l1 t347 t351 t352 ([] : List (S46)) 0) = some r := H
   have A7 := Aside0.mk A70
   clear A70
   have H' := Aside0.mk H
   clear H
   go_enter Try.func5, Try.ntmps5
   go_wp2_with (first | ((with_reducible refine gate_callee (f := 12) rfl ?_); refine goesL_ (some 13) rfl rfl Try.func12 (by kernel_rfl) rfl #[] rfl (by (try simp only [List.map_toArray, List.map_cons, List.map_nil]); first | done | rfl | (simp only [List.length_drop, List.length_take]; rfl)) ?_; (with_reducible refine (forebearlaw05_awake.calls k  true _ A3.out).mono ?_); rintro e w8 ⟨rfl, hb⟩; refine ⟨_, rfl, ?_⟩; have n0_ := Aside0.mk (below_step (by repeat (first | (with_reducible first | exact HB.out | apply below_alloc | apply pw_below_drewN | apply below_drew1) | exact HB.out)) hb); clear HB; have HB := n0_; clear n0_; (try clear hb); (try clear hb2); (try clear hk); (try clear hi)) | ((with_reducible refine gate_callee (f := 15) rfl ?_); refine goesL_ (some 18) rfl rfl Try.func15 (by kernel_rfl) rfl #[.slice A0 l0.length c0, .slice A1 l1.length c1] rfl (by (try simp only [List.map_toArray, List.map_cons, List.map_nil]); first | done | rfl | (simp only [List.length_drop, List.length_take]; rfl)) ?_; (with_reducible refine (diff_Hunks.calls k _ _ l0 _ _ l1 t347 t348 _ ?side1 ?side2 ?side3 ?side4 A5.out).mono ?_); (case side1 => repeat (first | exact (Kd.C_below HR0.out HB.out) | (with_reducible refine Kd.C_alloc ?_ _) | (with_reducible refine Kd.C_drewN ?_ _) | (with_reducible refine Kd.C_drew ?_))); (case side2 => exact HC0.out); (case side3 => repeat (first | exact (Kd.C_below HR1.out HB.out) | (with_reducible refine Kd.C_alloc ?_ _) | (with_reducible refine Kd.C_drewN ?_ _) | (with_reducible refine Kd.C_drew ?_))); (case side4 => exact HC1.out); rintro e w9 ⟨v349, rfl, ho0, hb⟩; refine ⟨_, rfl, ?_⟩; have n0_ := Aside0.mk (Kd.N_lower (Kd.N_mono (ok' := fun k_ => True) (Kd.S_N (Kd.S_bound ho0)) (fun k_ hk_ => trivial)) (below_size (by repeat (first | (with_reducible first | exact HB.out | apply below_alloc | apply pw_below_drewN | apply below_drew1) | exact HB.out)))); have n1_ := Aside0.mk (below_step (by repeat (first | (with_reducible first | exact HB.out | apply below_alloc | apply pw_below_drewN | apply below_drew1) | exact HB.out)) hb); clear HB; have HO350 := n0_; have HB := n1_; clear n0_ n1_; (try clear hb); (try clear hb2); (try clear hk); (try clear hi); (try clear ho0); obtain ⟨Ao10, co10, eo10⟩ := Kd.N_slice HO350.out; subst eo10) | ((with_reducible refine gate_callee (f := 18) rfl ?_); refine goesL_ (some 38) rfl rfl Try.func18 (by kernel_rfl) rfl #[.slice A0 l0.length c0, .slice Ao10 t347.length co10] rfl (by (try simp only [List.map_toArray, List.map_cons, List.map_nil]); first | done | rfl | (simp only [List.length_drop, List.length_take]; rfl)) ?_; (with_reducible refine (diff_Apply.calls k _ _ l0 _ _ t347 t351 t352 _ ?side1 ?side2 ?side3 ?side4 A7.out).mono ?_); (case side1 => repeat (first | exact (Kd.C_below HR0.out HB.out) | (with_reducible refine Kd.C_alloc ?_ _) | (with_reducible refine Kd.C_drewN ?_ _) | (with_reducible refine Kd.C_drew ?_))); (case side2 => exact HC0.out); (case side3 => repeat (first | exact (Kd.N_reads' HO350.out).2.2 | (with_reducible refine Kd.C_alloc ?_ _) | (with_reducible refine Kd.C_drewN ?_ _) | (with_reducible refine Kd.C_drew ?_))); (case side4 => exact (Kd.N_reads' HO350.out).2.1); rintro e w11 ⟨v353, rfl, ho0, hb⟩; refine ⟨_, rfl, ?_⟩; have n0_ := Aside0.mk (Kd.N_elder' (by (with_reducible repeat (first | apply Kd.N_alloc | apply Kd.N_drewN | apply Kd.N_drew)); exact HO350.out) (Kd.R_base ho0) hb); have n1_ := Aside0.mk (Kd.R_lower ho0 (below_size (by repeat (first | (with_reducible first | exact HB.out | apply below_alloc | apply pw_below_drewN | apply below_drew1) | exact HB.out)))); have n2_ := Aside0.mk (below_step (by repeat (first | (with_reducible first | exact HB.out | apply below_alloc | apply pw_below_drewN | apply below_drew1) | exact HB.out)) hb); clear HO350; clear HB; have HO350 := n0_; have HO354 := n1_; have HB := n2_; clear n0_ n1_ n2_; (try clear hb); (try clear hb2); (try clear hk); (try clear hi); (try clear ho0)))
   go_loopg [9, 10] k (fun kq v9 v10 w' => ∃ (x9_1 : List (S46)) (x10_1 : Int), v10 = .int .i64 x10_1 ∧ Aside0 (forebearlaw05_DiffBack.l0 kq l0 l1 t347 t351 t352 x9_1 x10_1 = some r) ∧ Aside0 (kq ≤ k) ∧ Aside0 (Kd.N k46 46 w' w.heap.size (fun k_ => some k_ ≠ (v353 : Value).ownBlock ∧ some k_ ≠ (v9 : Value).ownBlock) (.slice Ao10 t347.length co10) t347) ∧ Aside0 (Kd.R Kd.string 9 w' w.heap.size (fun _ => True) v353 t351) ∧ Aside0 (Kd.N k46 46 w' w.heap.size (fun k_ => some k_ ≠ ((.slice Ao10 t347.length co10) : Value).ownBlock ∧ some k_ ≠ (v353 : Value).ownBlock) v9 x9_1) ∧ Aside0 (Below w.heap.size w w'))
   case atStart => exact ⟨(([] : List (S46))), (0), (by first | rfl | (simp; done) | (simp [*]; done)), H', ⟨Nat.le_refl _⟩, ⟨by (with_reducible repeat (first | apply Kd.N_alloc | apply Kd.N_drewN | apply Kd.N_drew)); exact Kd.N_mono HO350.out (fun _ hk => ⟨hk.2, (by simp [Value.ownBlock])⟩)⟩, ⟨by (with_reducible repeat (first | apply Kd.R_alloc | apply Kd.R_drewN | apply Kd.R_drew)); exact HO354.out⟩, ⟨by first | exact Kd.S_nil _ _ _ _ _ | exact Kd.N_nil _ _ _ _ _ | exact Kd.V_nil _ _ _ _ _ | exact Kd.Q_nil _ _ _ _ _ | exact Kd.R_nil _ _ _ _ _⟩, ⟨by repeat (first | (with_reducible first | exact HB.out | apply below_alloc | apply pw_below_drewN | apply below_drew1) | exact HB.out)⟩⟩
   case round =>
    clear H'
    try clear c1
    try clear p2
    try clear c4
    try clear c5
    try clear c6
    try clear c6b0
    try clear c6b1
    obtain ⟨x9_1, x10_1, rfl, HA, HK1, HO_5, HO_7, HO_9, HB⟩ := hrel
    cases gk with
    | zero => exact absurd HA.out (by simp [forebearlaw05_DiffBack.l0])
    | succ k1 =>
     have H := HA.out
     clear HA
     simp only [forebearlaw05_DiffBack.l0] at H
     by_cases c12 : x10_1 < (t347.length : Int)
     ·rw [if_pos c12] at H
      have c12b0 : decide (x10_1 < (t347.length : Int)) = true := decide_eq_true c12
      clear c12
      by_cases c13 : 0 ≤ x10_1
      ·rw [if_pos c13] at H
       have c13b0 : decide (0 ≤ x10_1) = true := decide_eq_true c13
       clear c13
       by_cases c14 : x9_1.length < 2199023255552
       ·rw [if_pos c14] at H
        have LMc14 := Aside0.mk c14
        clear c14
        obtain ⟨y359, hy359⟩ : ∃ y_ : List (S46), y_ = (x9_1 ++ [(⟨(rd_T46 t347 x10_1).f1, (rd_T46 t347 x10_1).f0, (rd_T46 t347 x10_1).f3, (rd_T46 t347 x10_1).f2⟩ : S46)]) := ⟨_, rfl⟩
        replace H : (if (wrap64 ((((rd_T46 t347 x10_1).f2).length : Int) + (((rd_T46 t347 x10_1).f3).length : Int))) = 0 then (some false) else (forebearlaw05_DiffBack.l0 k1 l0 l1 t347 t351 t352 y359 (wrap64 (x10_1 + 1)))) = some r := by first | (rw [hy359]; with_reducible exact H) | (have H2_ := (Option.bind_some _ _).symm.trans H; rw [hy359]; with_reducible exact H2_) | (have H2_ := (Option.bind_some _ _).symm.trans H; with_reducible exact H2_) | with_reducible exact H | (rw [hy359]; exact H) | exact H
        have Ny359 := Aside0.mk hy359
        clear hy359
        by_cases c15 : (wrap64 ((((rd_T46 t347 x10_1).f2).length : Int) + (((rd_T46 t347 x10_1).f3).length : Int))) = 0
        ·rw [if_pos c15] at H
         have c15b0 : ((wrap64 ((((rd_T46 t347 x10_1).f2).length : Int) + (((rd_T46 t347 x10_1).f3).length : Int))) == 0) = true := beq_iff_eq.mpr c15
         have c15b1 : ((wrap64 ((((rd_T46 t347 x10_1).f2).length : Int) + (((rd_T46 t347 x10_1).f3).length : Int))) != 0) = false := bne_eq_false_iff_eq.mpr c15
         clear c15
         obtain rfl := Option.some.inj H
         try go_wp2
         have n0_ := Aside0.mk (Kd.N_drew HO_5.out)
         have n1_ := Aside0.mk (Kd.R_drew HO_7.out)
         have n2_ := Aside0.mk (Kd.N_drew HO_9.out)
         have n3_ := Aside0.mk (below_drew1 HB.out)
         clear HO_5
         clear HO_7
         clear HO_9
         clear HB
         have HO_5 := n0_
         have HO_7 := n1_
         have HO_9 := n2_
         have HB := n3_
         clear n0_ n1_ n2_ n3_
         have p355 : 0 ≤ (x10_1 : Int) := of_decide_eq_true (by first | (with_reducible assumption) | assumption)
         have q355 : x10_1 < (t347.length : Int) := of_decide_eq_true (by first | (with_reducible assumption) | assumption)
         obtain ⟨ad355, A355_2, c355_2, A355_3, c355_3, e355, hx355_0, hx355_1, hx355_2, hx355_3, hl355_2, hi355_2, hl355_3, hi355_3⟩ := at_T46 (Kd.N_reads' HO_5.out).2.2 x10_1 p355 q355
         cases e355
         obtain ⟨ce355, hce355, hMe355, hcc355⟩ := Kd.N_get HO_5.out z46 x10_1 p355 (by first | exact q355 | exact of_decide_eq_true (by first | (with_reducible assumption) | assumption) | (have e_ := (Kd.N_reads' HO_5.out).1; omega))
         obtain ⟨ua355_2, uc355_2, ua355_3, uc355_3, rfl, ul355_2, ge355_2, ul355_3, ge355_3⟩ := k46_openF hMe355
         have hv355_2 := hcc355 2 _ rfl
         rw [add_field _ _ 2 (by omega)] at hv355_2
         replace hv355_2 := Option.some.inj (hv355_2.symm.trans hx355_2)
         injection hv355_2 with hva_ hvn_ hvc_
         rw [hva_] at ge355_2
         rw [hvc_] at ul355_2
         have HL355_2 := Aside0.mk (show Kd.V Kd.string 9 _ w.heap.size _ _ ((rd_T46 t347 x10_1).f2) from Kd.V_mk ul355_2 ge355_2)
         clear hva_ hvn_ hvc_ ge355_2 ul355_2
         have hv355_3 := hcc355 3 _ rfl
         rw [add_field _ _ 3 (by omega)] at hv355_3
         replace hv355_3 := Option.some.inj (hv355_3.symm.trans hx355_3)
         injection hv355_3 with hva_ hvn_ hvc_
         rw [hva_] at ge355_3
         rw [hvc_] at ul355_3
         have HL355_3 := Aside0.mk (show Kd.V Kd.string 9 _ w.heap.size _ _ ((rd_T46 t347 x10_1).f3) from Kd.V_mk ul355_3 ge355_3)
         clear hva_ hvn_ hvc_ ge355_3 ul355_3
         clear hcc355 hce355
         have HR355_2 := Aside0.mk hi355_2
         have HC355_2 := Aside0.mk hl355_2
         clear hi355_2 hl355_2
         have HR355_3 := Aside0.mk hi355_3
         have HC355_3 := Aside0.mk hl355_3
         clear hi355_3 hl355_3
         replace p355 := eq_true p355
         replace q355 := eq_true q355
         have p356 : 0 ≤ (x10_1 : Int) := of_decide_eq_true (by first | (with_reducible assumption) | assumption)
         have q356 : x10_1 < (t347.length : Int) := of_decide_eq_true (by first | (with_reducible assumption) | assumption)
         obtain ⟨ad356, A356_2, c356_2, A356_3, c356_3, e356, hx356_0, hx356_1, hx356_2, hx356_3, hl356_2, hi356_2, hl356_3, hi356_3⟩ := at_T46 (Kd.N_reads' HO_5.out).2.2 x10_1 p356 q356
         obtain rfl : ad355 = ad356 := (by injection e356)
         obtain ⟨ce356, hce356, hMe356, hcc356⟩ := Kd.N_get HO_5.out z46 x10_1 p356 (by first | exact q356 | exact of_decide_eq_true (by first | (with_reducible assumption) | assumption) | (have e_ := (Kd.N_reads' HO_5.out).1; omega))
         obtain ⟨ua356_2, uc356_2, ua356_3, uc356_3, rfl, ul356_2, ge356_2, ul356_3, ge356_3⟩ := k46_openF hMe356
         have hv356_2 := hcc356 2 _ rfl
         rw [add_field _ _ 2 (by omega)] at hv356_2
         replace hv356_2 := Option.some.inj (hv356_2.symm.trans hx356_2)
         injection hv356_2 with hva_ hvn_ hvc_
         rw [hva_] at ge356_2
         rw [hvc_] at ul356_2
         have HL356_2 := Aside0.mk (show Kd.V Kd.string 9 _ w.heap.size _ _ ((rd_T46 t347 x10_1).f2) from Kd.V_mk ul356_2 ge356_2)
         clear hva_ hvn_ hvc_ ge356_2 ul356_2
         have hv356_3 := hcc356 3 _ rfl
         rw [add_field _ _ 3 (by omega)] at hv356_3
         replace hv356_3 := Option.some.inj (hv356_3.symm.trans hx356_3)
         injection hv356_3 with hva_ hvn_ hvc_
         rw [hva_] at ge356_3
         rw [hvc_] at ul356_3
         have HL356_3 := Aside0.mk (show Kd.V Kd.string 9 _ w.heap.size _ _ ((rd_T46 t347 x10_1).f3) from Kd.V_mk ul356_3 ge356_3)
         clear hva_ hvn_ hvc_ ge356_3 ul356_3
         clear hcc356 hce356
         have HR356_2 := Aside0.mk hi356_2
         have HC356_2 := Aside0.mk hl356_2
         clear hi356_2 hl356_2
         have HR356_3 := Aside0.mk hi356_3
         have HC356_3 := Aside0.mk hl356_3
         clear hi356_3 hl356_3
         replace p356 := eq_true p356
         replace q356 := eq_true q356
         have ea_ := Option.some.inj (hx355_2.symm.trans hx356_2)
         injection ea_ with ea_ en_ ec_
         subst ea_
         subst ec_
         clear en_
         have ea_ := Option.some.inj (hx355_3.symm.trans hx356_3)
         injection ea_ with ea_ en_ ec_
         subst ea_
         subst ec_
         clear en_
         have p357 : 0 ≤ (x10_1 : Int) := of_decide_eq_true (by first | (with_reducible assumption) | assumption)
         have q357 : x10_1 < (t347.length : Int) := of_decide_eq_true (by first | (with_reducible assumption) | assumption)
         obtain ⟨ad357, A357_2, c357_2, A357_3, c357_3, e357, hx357_0, hx357_1, hx357_2, hx357_3, hl357_2, hi357_2, hl357_3, hi357_3⟩ := at_T46 (Kd.N_reads' HO_5.out).2.2 x10_1 p357 q357
         obtain rfl : ad355 = ad357 := (by injection e357)
         obtain ⟨ce357, hce357, hMe357, hcc357⟩ := Kd.N_get HO_5.out z46 x10_1 p357 (by first | exact q357 | exact of_decide_eq_true (by first | (with_reducible assumption) | assumption) | (have e_ := (Kd.N_reads' HO_5.out).1; omega))
         obtain ⟨ua357_2, uc357_2, ua357_3, uc357_3, rfl, ul357_2, ge357_2, ul357_3, ge357_3⟩ := k46_openF hMe357
         have hv357_2 := hcc357 2 _ rfl
         rw [add_field _ _ 2 (by omega)] at hv357_2
         replace hv357_2 := Option.some.inj (hv357_2.symm.trans hx357_2)
         injection hv357_2 with hva_ hvn_ hvc_
         rw [hva_] at ge357_2
         rw [hvc_] at ul357_2
         have HL357_2 := Aside0.mk (show Kd.V Kd.string 9 _ w.heap.size _ _ ((rd_T46 t347 x10_1).f2) from Kd.V_mk ul357_2 ge357_2)
         clear hva_ hvn_ hvc_ ge357_2 ul357_2
         have hv357_3 := hcc357 3 _ rfl
         rw [add_field _ _ 3 (by omega)] at hv357_3
         replace hv357_3 := Option.some.inj (hv357_3.symm.trans hx357_3)
         injection hv357_3 with hva_ hvn_ hvc_
         rw [hva_] at ge357_3
         rw [hvc_] at ul357_3
         have HL357_3 := Aside0.mk (show Kd.V Kd.string 9 _ w.heap.size _ _ ((rd_T46 t347 x10_1).f3) from Kd.V_mk ul357_3 ge357_3)
         clear hva_ hvn_ hvc_ ge357_3 ul357_3
         clear hcc357 hce357
         have HR357_2 := Aside0.mk hi357_2
         have HC357_2 := Aside0.mk hl357_2
         clear hi357_2 hl357_2
         have HR357_3 := Aside0.mk hi357_3
         have HC357_3 := Aside0.mk hl357_3
         clear hi357_3 hl357_3
         replace p357 := eq_true p357
         replace q357 := eq_true q357
         have ea_ := Option.some.inj (hx355_2.symm.trans hx357_2)
         injection ea_ with ea_ en_ ec_
         subst ea_
         subst ec_
         clear en_
         have ea_ := Option.some.inj (hx355_3.symm.trans hx357_3)
         injection ea_ with ea_ en_ ec_
         subst ea_
         subst ec_
         clear en_
         have p358 : 0 ≤ (x10_1 : Int) := of_decide_eq_true (by first | (with_reducible assumption) | assumption)
         have q358 : x10_1 < (t347.length : Int) := of_decide_eq_true (by first | (with_reducible assumption) | assumption)
         obtain ⟨ad358, A358_2, c358_2, A358_3, c358_3, e358, hx358_0, hx358_1, hx358_2, hx358_3, hl358_2, hi358_2, hl358_3, hi358_3⟩ := at_T46 (Kd.N_reads' HO_5.out).2.2 x10_1 p358 q358
         obtain rfl : ad355 = ad358 := (by injection e358)
         obtain ⟨ce358, hce358, hMe358, hcc358⟩ := Kd.N_get HO_5.out z46 x10_1 p358 (by first | exact q358 | exact of_decide_eq_true (by first | (with_reducible assumption) | assumption) | (have e_ := (Kd.N_reads' HO_5.out).1; omega))
         obtain ⟨ua358_2, uc358_2, ua358_3, uc358_3, rfl, ul358_2, ge358_2, ul358_3, ge358_3⟩ := k46_openF hMe358
         have hv358_2 := hcc358 2 _ rfl
         rw [add_field _ _ 2 (by omega)] at hv358_2
         replace hv358_2 := Option.some.inj (hv358_2.symm.trans hx358_2)
         injection hv358_2 with hva_ hvn_ hvc_
         rw [hva_] at ge358_2
         rw [hvc_] at ul358_2
         have HL358_2 := Aside0.mk (show Kd.V Kd.string 9 _ w.heap.size _ _ ((rd_T46 t347 x10_1).f2) from Kd.V_mk ul358_2 ge358_2)
         clear hva_ hvn_ hvc_ ge358_2 ul358_2
         have hv358_3 := hcc358 3 _ rfl
         rw [add_field _ _ 3 (by omega)] at hv358_3
         replace hv358_3 := Option.some.inj (hv358_3.symm.trans hx358_3)
         injection hv358_3 with hva_ hvn_ hvc_
         rw [hva_] at ge358_3
         rw [hvc_] at ul358_3
         have HL358_3 := Aside0.mk (show Kd.V Kd.string 9 _ w.heap.size _ _ ((rd_T46 t347 x10_1).f3) from Kd.V_mk ul358_3 ge358_3)
         clear hva_ hvn_ hvc_ ge358_3 ul358_3
         clear hcc358 hce358
         have HR358_2 := Aside0.mk hi358_2
         have HC358_2 := Aside0.mk hl358_2
         clear hi358_2 hl358_2
         have HR358_3 := Aside0.mk hi358_3
         have HC358_3 := Aside0.mk hl358_3
         clear hi358_3 hl358_3
         replace p358 := eq_true p358
         replace q358 := eq_true q358
         have ea_ := Option.some.inj (hx355_2.symm.trans hx358_2)
         injection ea_ with ea_ en_ ec_
         subst ea_
         subst ec_
         clear en_
         have ea_ := Option.some.inj (hx355_3.symm.trans hx358_3)
         injection ea_ with ea_ en_ ec_
         subst ea_
         subst ec_
         clear en_
         refine start_ (n := 25) (S := fun w' => w'.cell? (ad355.add ((x10_1).toNat * 4)) = some (.int .i64 ((rd_T46 t347 x10_1).f0)) ∧ w'.cell? ⟨(ad355.add ((x10_1).toNat * 4)).block, (ad355.add ((x10_1).toNat * 4)).off + 1, none⟩ = some (.int .i64 ((rd_T46 t347 x10_1).f1)) ∧ w'.cell? ⟨(ad355.add ((x10_1).toNat * 4)).block, (ad355.add ((x10_1).toNat * 4)).off + 2, none⟩ = some (.slice A355_2 ((rd_T46 t347 x10_1).f2).length c355_2) ∧ w'.cell? ⟨(ad355.add ((x10_1).toNat * 4)).block, (ad355.add ((x10_1).toNat * 4)).off + 3, none⟩ = some (.slice A355_3 ((rd_T46 t347 x10_1).f3).length c355_3) ∧ w'.cell? (ad355.add ((x10_1).toNat * 4)) = some (.int .i64 ((rd_T46 t347 x10_1).f0)) ∧ w'.cell? ⟨(ad355.add ((x10_1).toNat * 4)).block, (ad355.add ((x10_1).toNat * 4)).off + 1, none⟩ = some (.int .i64 ((rd_T46 t347 x10_1).f1)) ∧ w'.cell? ⟨(ad355.add ((x10_1).toNat * 4)).block, (ad355.add ((x10_1).toNat * 4)).off + 2, none⟩ = some (.slice A355_2 ((rd_T46 t347 x10_1).f2).length c355_2) ∧ w'.cell? ⟨(ad355.add ((x10_1).toNat * 4)).block, (ad355.add ((x10_1).toNat * 4)).off + 3, none⟩ = some (.slice A355_3 ((rd_T46 t347 x10_1).f3).length c355_3) ∧ w'.cell? (ad355.add ((x10_1).toNat * 4)) = some (.int .i64 ((rd_T46 t347 x10_1).f0)) ∧ w'.cell? ⟨(ad355.add ((x10_1).toNat * 4)).block, (ad355.add ((x10_1).toNat * 4)).off + 1, none⟩ = some (.int .i64 ((rd_T46 t347 x10_1).f1)) ∧ w'.cell? ⟨(ad355.add ((x10_1).toNat * 4)).block, (ad355.add ((x10_1).toNat * 4)).off + 2, none⟩ = some (.slice A355_2 ((rd_T46 t347 x10_1).f2).length c355_2) ∧ w'.cell? ⟨(ad355.add ((x10_1).toNat * 4)).block, (ad355.add ((x10_1).toNat * 4)).off + 3, none⟩ = some (.slice A355_3 ((rd_T46 t347 x10_1).f3).length c355_3) ∧ w'.cell? (ad355.add ((x10_1).toNat * 4)) = some (.int .i64 ((rd_T46 t347 x10_1).f0)) ∧ w'.cell? ⟨(ad355.add ((x10_1).toNat * 4)).block, (ad355.add ((x10_1).toNat * 4)).off + 1, none⟩ = some (.int .i64 ((rd_T46 t347 x10_1).f1)) ∧ w'.cell? ⟨(ad355.add ((x10_1).toNat * 4)).block, (ad355.add ((x10_1).toNat * 4)).off + 2, none⟩ = some (.slice A355_2 ((rd_T46 t347 x10_1).f2).length c355_2) ∧ w'.cell? ⟨(ad355.add ((x10_1).toNat * 4)).block, (ad355.add ((x10_1).toNat * 4)).off + 3, none⟩ = some (.slice A355_3 ((rd_T46 t347 x10_1).f3).length c355_3)) (ds := [22, 23]) (vb 0 25) (by kernel_rfl) rfl rfl ⟨hx355_0, hx355_1, hx355_2, hx355_3, hx356_0, hx356_1, hx356_2, hx356_3, hx357_0, hx357_1, hx357_2, hx357_3, hx358_0, hx358_1, hx358_2, hx358_3⟩ (fun hHeld => ?_); refine with_tabW forebearlaw05_DiffBack.tab11 forebearlaw05_DiffBack.bits11 (fun HT_ HW_ => ?_)
         generalize wr.drew = w16 at HO_5 HO_7 HO_9 HB HL355_2 HL355_3 HL356_2 HL356_3 HL357_2 HL357_3 HL358_2 HL358_3 HR355_2 HR355_3 HR356_2 HR356_3 HR357_2 HR357_3 HR358_2 HR358_3 hx355_0 hx355_1 hx355_2 hx355_3 hx356_0 hx356_1 hx356_2 hx356_3 hx357_0 hx357_1 hx357_2 hx357_3 hx358_0 hx358_1 hx358_2 hx358_3 hHeld ⊢
         refine pure_ (i := 0) (N := some 47) (v := ?_) (a' := ?_) (vb 1 25) rfl rfl (any_of HT_.out (by kernel_rfl)) (fun _ _ _ h => h) (Or.inl ⟨by rfl, ?_⟩) ?_ ?_
         rotate_left
         ·intro w'
          go_simp
          with_reducible rfl
         rotate_left
         ·simp only [Act.put, List.setIfInBounds_toArray, List.set_cons_zero, List.set_cons_succ, i64_w, i32_w]
          rfl
         refine pure_ (i := 1) (N := some 48) (v := ?_) (a' := ?_) (vb 3 25) rfl rfl (any_of HT_.out (by kernel_rfl)) (fun _ _ _ h => h) (Or.inl ⟨by rfl, ?_⟩) ?_ ?_
         rotate_left
         ·intro w'
          go_simp
          with_reducible rfl
         rotate_left
         ·simp only [Act.put, List.setIfInBounds_toArray, List.set_cons_zero, List.set_cons_succ, i64_w, i32_w]
          rfl
         refine pure_ (i := 2) (N := some 49) (v := ?_) (a' := ?_) (vb 7 25) rfl rfl (any_of HT_.out (by kernel_rfl)) (fun _ _ _ h => h) (Or.inl ⟨by rfl, ?_⟩) ?_ ?_
         rotate_left
         ·intro w'
          go_simp
          with_reducible rfl
         rotate_left
         ·simp only [Act.put, List.setIfInBounds_toArray, List.set_cons_zero, List.set_cons_succ, i64_w, i32_w]
          rfl
         refine pure_ (i := 3) (N := some 50) (v := ?_) (a' := ?_) (vb 15 25) rfl rfl (any_of HT_.out (by kernel_rfl)) (fun _ _ _ h => h) (Or.inl ⟨by rfl, ?_⟩) ?_ ?_
         rotate_left
         ·intro w'
          go_simp
          with_reducible rfl
         rotate_left
         ·simp only [Act.put, List.setIfInBounds_toArray, List.set_cons_zero, List.set_cons_succ, i64_w, i32_w]
          rfl
         refine pure_ (i := 4) (N := some 51) (v := ?_) (a' := ?_) (vb 31 25) rfl rfl (any_of HT_.out (by kernel_rfl)) (fun _ _ _ h => h) (Or.inl ⟨by rfl, ?_⟩) ?_ ?_
         rotate_left
         ·intro w'
          go_simp
          with_reducible rfl
         rotate_left
         ·simp only [Act.put, List.setIfInBounds_toArray, List.set_cons_zero, List.set_cons_succ, i64_w, i32_w]
          rfl
         refine pure_ (i := 6) (N := some 53) (v := ?_) (a' := ?_) (vb 95 25) rfl rfl (any_of HT_.out (by kernel_rfl)) (fun _ _ _ h => h) (Or.inl ⟨by rfl, ?_⟩) ?_ ?_
         rotate_left
         ·intro w'
          go_simp
          with_reducible rfl
         rotate_left
         ·simp only [Act.put, List.setIfInBounds_toArray, List.set_cons_zero, List.set_cons_succ, i64_w, i32_w]
          rfl
         refine pure_ (i := 7) (N := some 54) (v := ?_) (a' := ?_) (vb 223 25) rfl rfl (any_of HT_.out (by kernel_rfl)) (fun _ _ _ h => h) (Or.inl ⟨by rfl, ?_⟩) ?_ ?_
         rotate_left
         ·intro w'
          go_simp
          with_reducible rfl
         rotate_left
         ·simp only [Act.put, List.setIfInBounds_toArray, List.set_cons_zero, List.set_cons_succ, i64_w, i32_w]
          rfl
         refine pure_ (i := 8) (N := some 55) (v := ?_) (a' := ?_) (vb 479 25) rfl rfl (any_of HT_.out (by kernel_rfl)) (fun _ _ _ h => h) (Or.inl ⟨by rfl, ?_⟩) ?_ ?_
         rotate_left
         ·intro w'
          go_simp
          with_reducible rfl
         rotate_left
         ·simp only [Act.put, List.setIfInBounds_toArray, List.set_cons_zero, List.set_cons_succ, i64_w, i32_w]
          rfl
         refine pure_ (i := 9) (N := some 56) (v := ?_) (a' := ?_) (vb 991 25) rfl rfl (any_of HT_.out (by kernel_rfl)) (fun _ _ _ h => h) (Or.inl ⟨by rfl, ?_⟩) ?_ ?_
         rotate_left
         ·intro w'
          go_simp
          with_reducible rfl
         rotate_left
         ·simp only [Act.put, List.setIfInBounds_toArray, List.set_cons_zero, List.set_cons_succ, i64_w, i32_w]
          rfl
         refine pure_ (i := 11) (N := some 58) (v := ?_) (a' := ?_) (vb 3039 25) rfl rfl (any_of HT_.out (by kernel_rfl)) (fun _ _ _ h => h) (Or.inl ⟨by rfl, ?_⟩) ?_ ?_
         rotate_left
         ·intro w'
          go_simp
          with_reducible rfl
         rotate_left
         ·simp only [Act.put, List.setIfInBounds_toArray, List.set_cons_zero, List.set_cons_succ, i64_w, i32_w]
          rfl
         refine pure_ (i := 12) (N := some 59) (v := ?_) (a' := ?_) (vb 7135 25) rfl rfl (any_of HT_.out (by kernel_rfl)) (fun _ _ _ h => h) (Or.inl ⟨by rfl, ?_⟩) ?_ ?_
         rotate_left
         ·intro w'
          go_simp
          with_reducible rfl
         rotate_left
         ·simp only [Act.put, List.setIfInBounds_toArray, List.set_cons_zero, List.set_cons_succ, i64_w, i32_w]
          rfl
         refine pure_ (i := 13) (N := some 60) (v := ?_) (a' := ?_) (vb 15327 25) rfl rfl (any_of HT_.out (by kernel_rfl)) (fun _ _ _ h => h) (Or.inl ⟨by rfl, ?_⟩) ?_ ?_
         rotate_left
         ·intro w'
          go_simp
          with_reducible rfl
         rotate_left
         ·simp only [Act.put, List.setIfInBounds_toArray, List.set_cons_zero, List.set_cons_succ, i64_w, i32_w]
          rfl
         refine pure_ (i := 14) (N := some 61) (v := ?_) (a' := ?_) (vb 31711 25) rfl rfl (any_of HT_.out (by kernel_rfl)) (fun _ _ _ h => h) (Or.inl ⟨by rfl, ?_⟩) ?_ ?_
         rotate_left
         ·intro w'
          go_simp
          with_reducible rfl
         rotate_left
         ·simp only [Act.put, List.setIfInBounds_toArray, List.set_cons_zero, List.set_cons_succ, i64_w, i32_w]
          rfl
         refine pure_ (i := 16) (N := some 63) (v := ?_) (a' := ?_) (vb 97247 25) rfl rfl (any_of HT_.out (by kernel_rfl)) (fun _ _ _ h => h) (Or.inl ⟨by rfl, ?_⟩) ?_ ?_
         rotate_left
         ·intro w'
          go_simp
          with_reducible rfl
         rotate_left
         ·simp only [Act.put, List.setIfInBounds_toArray, List.set_cons_zero, List.set_cons_succ, i64_w, i32_w]
          rfl
         refine pure_ (i := 17) (N := some 64) (v := ?_) (a' := ?_) (vb 228319 25) rfl rfl (any_of HT_.out (by kernel_rfl)) (fun _ _ _ h => h) (Or.inl ⟨by rfl, ?_⟩) ?_ ?_
         rotate_left
         ·intro w'
          go_simp
          with_reducible rfl
         rotate_left
         ·simp only [Act.put, List.setIfInBounds_toArray, List.set_cons_zero, List.set_cons_succ, i64_w, i32_w]
          rfl
         refine pure_ (i := 18) (N := some 65) (v := ?_) (a' := ?_) (vb 490463 25) rfl rfl (any_of HT_.out (by kernel_rfl)) (fun _ _ _ h => h) (Or.inl ⟨by rfl, ?_⟩) ?_ ?_
         rotate_left
         ·intro w'
          go_simp
          with_reducible rfl
         rotate_left
         ·simp only [Act.put, List.setIfInBounds_toArray, List.set_cons_zero, List.set_cons_succ, i64_w, i32_w]
          rfl
         refine pure_ (i := 19) (N := some 66) (v := ?_) (a' := ?_) (vb 1014751 25) rfl rfl (any_of HT_.out (by kernel_rfl)) (fun _ _ _ h => h) (Or.inl ⟨by rfl, ?_⟩) ?_ ?_
         rotate_left
         ·intro w'
          go_simp
          with_reducible rfl
         rotate_left
         ·simp only [Act.put, List.setIfInBounds_toArray, List.set_cons_zero, List.set_cons_succ, i64_w, i32_w]
          rfl
         refine take_ (i := 5) (N := some 52) (v := ?_) (a' := ?_) (vb 1014783 25) rfl rfl (take_ofW HT_.out HW_.out (by kernel_rfl)) (fun _ _ _ h => h) (Or.inl ⟨by rfl, ?_⟩) hHeld ?_ ?_
         rotate_left
         ·rintro w' ⟨s0, s1, s2, s3, s4, s5, s6, s7, s8, s9, s10, s11, s12, s13, s14, s15⟩
          go_simp
          with_reducible rfl
         rotate_left
         ·simp only [Act.put, List.setIfInBounds_toArray, List.set_cons_zero, List.set_cons_succ, i64_w, i32_w]
          rfl
         refine take_ (i := 10) (N := some 57) (v := ?_) (a' := ?_) (vb 1015807 25) rfl rfl (take_ofW HT_.out HW_.out (by kernel_rfl)) (fun _ _ _ h => h) (Or.inl ⟨by rfl, ?_⟩) hHeld ?_ ?_
         rotate_left
         ·rintro w' ⟨s0, s1, s2, s3, s4, s5, s6, s7, s8, s9, s10, s11, s12, s13, s14, s15⟩
          go_simp
          with_reducible rfl
         rotate_left
         ·simp only [Act.put, List.setIfInBounds_toArray, List.set_cons_zero, List.set_cons_succ, i64_w, i32_w]
          rfl
         refine take_ (i := 15) (N := some 62) (v := ?_) (a' := ?_) (vb 1048575 25) rfl rfl (take_ofW HT_.out HW_.out (by kernel_rfl)) (fun _ _ _ h => h) (Or.inl ⟨by rfl, ?_⟩) hHeld ?_ ?_
         rotate_left
         ·rintro w' ⟨s0, s1, s2, s3, s4, s5, s6, s7, s8, s9, s10, s11, s12, s13, s14, s15⟩
          go_simp
          with_reducible rfl
         rotate_left
         ·simp only [Act.put, List.setIfInBounds_toArray, List.set_cons_zero, List.set_cons_succ, i64_w, i32_w]
          rfl
         refine take_ (i := 20) (N := some 67) (v := ?_) (a' := ?_) (vb 2097151 25) rfl rfl (take_ofW HT_.out HW_.out (by kernel_rfl)) (fun _ _ _ h => h) (Or.inl ⟨by rfl, ?_⟩) hHeld ?_ ?_
         rotate_left
         ·rintro w' ⟨s0, s1, s2, s3, s4, s5, s6, s7, s8, s9, s10, s11, s12, s13, s14, s15⟩
          go_simp
          with_reducible rfl
         rotate_left
         ·simp only [Act.put, List.setIfInBounds_toArray, List.set_cons_zero, List.set_cons_succ, i64_w, i32_w]
          rfl
         refine pure_ (i := 21) (N := some 68) (v := ?_) (a' := ?_) (vb 4194303 25) rfl rfl (any_of HT_.out (by kernel_rfl)) (fun _ _ _ h => h) (Or.inl ⟨by rfl, ?_⟩) ?_ ?_
         rotate_left
         ·intro w'
          go_simp
          with_reducible rfl
         rotate_left
         ·simp only [Act.put, List.setIfInBounds_toArray, List.set_cons_zero, List.set_cons_succ, i64_w, i32_w]
          rfl
         refine last_ (i := 22) (N := some 69) (vb 8388607 25) rfl rfl (one_of HT_.out (by kernel_rfl)) (by decide) (fun K hK => ?_)
         refine value_ (w1 := ?_) (v := ?_) (by rfl) rfl ?_ ?_
         rotate_left 2
         ·go_simp
          constructor
          ·rfl
          ·rfl
         refine hK.out _ _ ?_
         clear hK K
         refine norm_ (a' := ?_) ?_ ?_
         rotate_left
         ·show Act.put _ (some 69) _ = _
          simp only [Act.put, List.setIfInBounds_toArray, List.set_cons_zero, List.set_cons_succ, i64_w, i32_w]
          rfl
         refine last_ (i := 23) (N := some 70) (vb 16777215 25) rfl rfl (one_of HT_.out (by kernel_rfl)) (by decide) (fun K hK => ?_)
         refine Kd.N_append_step k46 (w0 := w) w.heap.size (by rfl) (.tmp 47) (.tmp 69) 31 46 (.agg #[(.int .i64 0), (.int .i64 0), (.slice none 0 0), (.slice none 0 0)]) 64 rfl Try.underlying31 info46 rfl (by decide) (by omega) u9 x9_1 (⟨(rd_T46 t347 x10_1).f1, (rd_T46 t347 x10_1).f0, (rd_T46 t347 x10_1).f3, (rd_T46 t347 x10_1).f2⟩ : S46) [.int .i64 ((rd_T46 t347 x10_1).f1), .int .i64 ((rd_T46 t347 x10_1).f0), .slice A355_3 ((rd_T46 t347 x10_1).f3).length c355_3, .slice A355_2 ((rd_T46 t347 x10_1).f2).length c355_2] (fun k_ => some k_ ≠ (.slice (some ad355) t347.length co10 : Value).ownBlock ∧ some k_ ≠ (v353 : Value).ownBlock) (fun k_ => ((fun k_ => some k_ ≠ (.slice (some ad355) t347.length co10 : Value).ownBlock ∧ some k_ ≠ (v353 : Value).ownBlock)) k_ ∧ some k_ ≠ (u9 : Value).ownBlock) rfl rfl ?aP (fun _ hk => hk) ?aF ?aO ?aB ?aS ?aL ?_
         (case aP => exact (k46_mkF _ _ (⟨(rd_T46 t347 x10_1).f1, (rd_T46 t347 x10_1).f0, (rd_T46 t347 x10_1).f3, (rd_T46 t347 x10_1).f2⟩ : S46) (Kd.V_reads' (Kd.V_mono (e := 0) (base := 0) (ok' := (fun k_ => ((fun k_ => some k_ ≠ (.slice (some ad355) t347.length co10 : Value).ownBlock ∧ some k_ ≠ (v353 : Value).ownBlock)) k_ ∧ some k_ ≠ (u9 : Value).ownBlock)) (HL357_3.out) (fun k_ hk => ⟨⟨hk.2, hk.1.1⟩, hk.1.2⟩))).2.1 (Kd.V_F (Kd.V_mono (e := 0) (base := 0) (ok' := (fun k_ => ((fun k_ => some k_ ≠ (.slice (some ad355) t347.length co10 : Value).ownBlock ∧ some k_ ≠ (v353 : Value).ownBlock)) k_ ∧ some k_ ≠ (u9 : Value).ownBlock)) (HL357_3.out) (fun k_ hk => ⟨⟨hk.2, hk.1.1⟩, hk.1.2⟩))) (Kd.V_reads' (Kd.V_mono (e := 0) (base := 0) (ok' := (fun k_ => ((fun k_ => some k_ ≠ (.slice (some ad355) t347.length co10 : Value).ownBlock ∧ some k_ ≠ (v353 : Value).ownBlock)) k_ ∧ some k_ ≠ (u9 : Value).ownBlock)) (HL358_2.out) (fun k_ hk => ⟨⟨hk.2, hk.1.1⟩, hk.1.2⟩))).2.1 (Kd.V_F (Kd.V_mono (e := 0) (base := 0) (ok' := (fun k_ => ((fun k_ => some k_ ≠ (.slice (some ad355) t347.length co10 : Value).ownBlock ∧ some k_ ≠ (v353 : Value).ownBlock)) k_ ∧ some k_ ≠ (u9 : Value).ownBlock)) (HL358_2.out) (fun k_ hk => ⟨⟨hk.2, hk.1.1⟩, hk.1.2⟩)))))
         (case aB => exact (by repeat (first | (with_reducible first | exact HB.out | apply below_alloc | apply pw_below_drewN | apply below_drew1) | exact HB.out)))
         (case aF => exact (fun k_ hk => ⟨Kd.fresh' (Kd.N_lt (by (with_reducible repeat (first | apply Kd.N_alloc | apply Kd.N_drewN | apply Kd.N_drew)); exact HO_5.out)) k_ hk, Kd.fresh' (Kd.R_lt (by (with_reducible repeat (first | apply Kd.R_alloc | apply Kd.R_drewN | apply Kd.R_drew)); exact HO_7.out)) k_ hk⟩))
         (case aO => exact (by (with_reducible repeat (first | apply Kd.N_alloc | apply Kd.N_drewN | apply Kd.N_drew)); exact HO_9.out))
         (case aS => exact (below_size (by repeat (first | (with_reducible first | exact HB.out | apply below_alloc | apply pw_below_drewN | apply below_drew1) | exact HB.out))))
         (case aL => have := LMc14.out; omega)
         intro v360 w17 ho hb hg hat
         rw [← Ny359.out] at ho
         have n0_ := Aside0.mk (Kd.N_afterv (ok := (fun k_ => some k_ ≠ (v353 : Value).ownBlock)) (by (with_reducible repeat (first | apply Kd.N_alloc | apply Kd.N_drewN | apply Kd.N_drew)); exact HO_5.out) hg hat)
         have n1_ := Aside0.mk (Kd.R_over' (by (with_reducible repeat (first | apply Kd.R_alloc | apply Kd.R_drewN | apply Kd.R_drew)); exact HO_7.out) (Kd.N_typed (by (with_reducible repeat (first | apply Kd.N_alloc | apply Kd.N_drewN | apply Kd.N_drew)); exact HO_9.out)) (by decide) hg)
         have n2_ := Aside0.mk (Kd.V_afterv (ok := (fun k_ => some k_ ≠ (.slice (some ad355) t347.length co10 : Value).ownBlock ∧ some k_ ≠ (v353 : Value).ownBlock)) (by (with_reducible repeat (first | apply Kd.V_alloc | apply Kd.V_drewN | apply Kd.V_drew)); exact Kd.V_mono HL355_2.out (fun _ hk => ⟨⟨hk.2, hk.1.1⟩, hk.1.2⟩)) hg hat)
         have n3_ := Aside0.mk (Kd.V_afterv (ok := (fun k_ => some k_ ≠ (.slice (some ad355) t347.length co10 : Value).ownBlock ∧ some k_ ≠ (v353 : Value).ownBlock)) (by (with_reducible repeat (first | apply Kd.V_alloc | apply Kd.V_drewN | apply Kd.V_drew)); exact Kd.V_mono HL355_3.out (fun _ hk => ⟨⟨hk.2, hk.1.1⟩, hk.1.2⟩)) hg hat)
         have n4_ := Aside0.mk (Kd.V_afterv (ok := (fun k_ => some k_ ≠ (.slice (some ad355) t347.length co10 : Value).ownBlock ∧ some k_ ≠ (v353 : Value).ownBlock)) (by (with_reducible repeat (first | apply Kd.V_alloc | apply Kd.V_drewN | apply Kd.V_drew)); exact Kd.V_mono HL356_2.out (fun _ hk => ⟨⟨hk.2, hk.1.1⟩, hk.1.2⟩)) hg hat)
         have n5_ := Aside0.mk (Kd.V_afterv (ok := (fun k_ => some k_ ≠ (.slice (some ad355) t347.length co10 : Value).ownBlock ∧ some k_ ≠ (v353 : Value).ownBlock)) (by (with_reducible repeat (first | apply Kd.V_alloc | apply Kd.V_drewN | apply Kd.V_drew)); exact Kd.V_mono HL356_3.out (fun _ hk => ⟨⟨hk.2, hk.1.1⟩, hk.1.2⟩)) hg hat)
         have n6_ := Aside0.mk (Kd.V_afterv (ok := (fun k_ => some k_ ≠ (.slice (some ad355) t347.length co10 : Value).ownBlock ∧ some k_ ≠ (v353 : Value).ownBlock)) (by (with_reducible repeat (first | apply Kd.V_alloc | apply Kd.V_drewN | apply Kd.V_drew)); exact Kd.V_mono HL357_2.out (fun _ hk => ⟨⟨hk.2, hk.1.1⟩, hk.1.2⟩)) hg hat)
         have n7_ := Aside0.mk (Kd.V_afterv (ok := (fun k_ => some k_ ≠ (.slice (some ad355) t347.length co10 : Value).ownBlock ∧ some k_ ≠ (v353 : Value).ownBlock)) (by (with_reducible repeat (first | apply Kd.V_alloc | apply Kd.V_drewN | apply Kd.V_drew)); exact Kd.V_mono HL357_3.out (fun _ hk => ⟨⟨hk.2, hk.1.1⟩, hk.1.2⟩)) hg hat)
         have n8_ := Aside0.mk (Kd.V_afterv (ok := (fun k_ => some k_ ≠ (.slice (some ad355) t347.length co10 : Value).ownBlock ∧ some k_ ≠ (v353 : Value).ownBlock)) (by (with_reducible repeat (first | apply Kd.V_alloc | apply Kd.V_drewN | apply Kd.V_drew)); exact Kd.V_mono HL358_2.out (fun _ hk => ⟨⟨hk.2, hk.1.1⟩, hk.1.2⟩)) hg hat)
         have n9_ := Aside0.mk (Kd.V_afterv (ok := (fun k_ => some k_ ≠ (.slice (some ad355) t347.length co10 : Value).ownBlock ∧ some k_ ≠ (v353 : Value).ownBlock)) (by (with_reducible repeat (first | apply Kd.V_alloc | apply Kd.V_drewN | apply Kd.V_drew)); exact Kd.V_mono HL358_3.out (fun _ hk => ⟨⟨hk.2, hk.1.1⟩, hk.1.2⟩)) hg hat)
         have n10_ := Aside0.mk (hb)
         have n11_ := Aside0.mk (ho)
         clear HO_5
         clear HO_7
         clear HL355_2
         clear HL355_3
         clear HL356_2
         clear HL356_3
         clear HL357_2
         clear HL357_3
         clear HL358_2
         clear HL358_3
         clear HB
         clear HO_9
         have HO_5 := n0_
         have HO_7 := n1_
         have HL355_2 := n2_
         have HL355_3 := n3_
         have HL356_2 := n4_
         have HL356_3 := n5_
         have HL357_2 := n6_
         have HL357_3 := n7_
         have HL358_2 := n8_
         have HL358_3 := n9_
         have HB := n10_
         have HO361 := n11_
         clear n0_ n1_ n2_ n3_ n4_ n5_ n6_ n7_ n8_ n9_ n10_ n11_
         clear ho hb hg hat
         refine hK.out _ _ ?_
         clear hK K
         refine norm_ (a' := ?_) ?_ ?_
         rotate_left
         ·show Act.put _ (some 70) _ = _
          simp only [Act.put, List.setIfInBounds_toArray, List.set_cons_zero, List.set_cons_succ, i64_w, i32_w]
          rfl
         refine pure_ (i := 24) (N := some 9) (v := ?_) (a' := ?_) (vb 33554431 25) rfl rfl (any_of HT_.out (by kernel_rfl)) (fun _ _ _ h => h) (Or.inl ⟨by rfl, ?_⟩) ?_ ?_
         rotate_left
         ·intro w'
          go_simp
          with_reducible rfl
         rotate_left
         ·simp only [Act.put, List.setIfInBounds_toArray, List.set_cons_zero, List.set_cons_succ, i64_w, i32_w]
          rfl
         refine done_ (done_of HT_.out (by kernel_rfl)) ?_
         try go_wp2
         have n0_ := Aside0.mk (Kd.N_drew HO_5.out)
         have n1_ := Aside0.mk (Kd.R_drew HO_7.out)
         have n2_ := Aside0.mk (Kd.V_drew HL355_2.out)
         have n3_ := Aside0.mk (Kd.V_drew HL355_3.out)
         have n4_ := Aside0.mk (Kd.V_drew HL356_2.out)
         have n5_ := Aside0.mk (Kd.V_drew HL356_3.out)
         have n6_ := Aside0.mk (Kd.V_drew HL357_2.out)
         have n7_ := Aside0.mk (Kd.V_drew HL357_3.out)
         have n8_ := Aside0.mk (Kd.V_drew HL358_2.out)
         have n9_ := Aside0.mk (Kd.V_drew HL358_3.out)
         have n10_ := Aside0.mk (Kd.N_drew HO361.out)
         have n11_ := Aside0.mk (below_drew1 HB.out)
         clear HO_5
         clear HO_7
         clear HL355_2
         clear HL355_3
         clear HL356_2
         clear HL356_3
         clear HL357_2
         clear HL357_3
         clear HL358_2
         clear HL358_3
         clear HO361
         clear HB
         have HO_5 := n0_
         have HO_7 := n1_
         have HL355_2 := n2_
         have HL355_3 := n3_
         have HL356_2 := n4_
         have HL356_3 := n5_
         have HL357_2 := n6_
         have HL357_3 := n7_
         have HL358_2 := n8_
         have HL358_3 := n9_
         have HO361 := n10_
         have HB := n11_
         clear n0_ n1_ n2_ n3_ n4_ n5_ n6_ n7_ n8_ n9_ n10_ n11_
         have p362 : 0 ≤ (x10_1 : Int) := of_decide_eq_true (by first | (with_reducible assumption) | assumption)
         have q362 : x10_1 < (t347.length : Int) := of_decide_eq_true (by first | (with_reducible assumption) | assumption)
         obtain ⟨ad362, A362_2, c362_2, A362_3, c362_3, e362, hx362_0, hx362_1, hx362_2, hx362_3, hl362_2, hi362_2, hl362_3, hi362_3⟩ := at_T46 (Kd.N_reads' HO_5.out).2.2 x10_1 p362 q362
         obtain rfl : ad355 = ad362 := (by injection e362)
         obtain ⟨ce362, hce362, hMe362, hcc362⟩ := Kd.N_get HO_5.out z46 x10_1 p362 (by first | exact q362 | exact of_decide_eq_true (by first | (with_reducible assumption) | assumption) | (have e_ := (Kd.N_reads' HO_5.out).1; omega))
         obtain ⟨ua362_2, uc362_2, ua362_3, uc362_3, rfl, ul362_2, ge362_2, ul362_3, ge362_3⟩ := k46_openF hMe362
         have hv362_2 := hcc362 2 _ rfl
         rw [add_field _ _ 2 (by omega)] at hv362_2
         replace hv362_2 := Option.some.inj (hv362_2.symm.trans hx362_2)
         injection hv362_2 with hva_ hvn_ hvc_
         rw [hva_] at ge362_2
         rw [hvc_] at ul362_2
         have HL362_2 := Aside0.mk (show Kd.V Kd.string 9 _ w.heap.size _ _ ((rd_T46 t347 x10_1).f2) from Kd.V_mk ul362_2 ge362_2)
         clear hva_ hvn_ hvc_ ge362_2 ul362_2
         have hv362_3 := hcc362 3 _ rfl
         rw [add_field _ _ 3 (by omega)] at hv362_3
         replace hv362_3 := Option.some.inj (hv362_3.symm.trans hx362_3)
         injection hv362_3 with hva_ hvn_ hvc_
         rw [hva_] at ge362_3
         rw [hvc_] at ul362_3
         have HL362_3 := Aside0.mk (show Kd.V Kd.string 9 _ w.heap.size _ _ ((rd_T46 t347 x10_1).f3) from Kd.V_mk ul362_3 ge362_3)
         clear hva_ hvn_ hvc_ ge362_3 ul362_3
         clear hcc362 hce362
         have HR362_2 := Aside0.mk hi362_2
         have HC362_2 := Aside0.mk hl362_2
         clear hi362_2 hl362_2
         have HR362_3 := Aside0.mk hi362_3
         have HC362_3 := Aside0.mk hl362_3
         clear hi362_3 hl362_3
         replace p362 := eq_true p362
         replace q362 := eq_true q362
         have p363 : 0 ≤ (x10_1 : Int) := of_decide_eq_true (by first | (with_reducible assumption) | assumption)
         have q363 : x10_1 < (t347.length : Int) := of_decide_eq_true (by first | (with_reducible assumption) | assumption)
         obtain ⟨ad363, A363_2, c363_2, A363_3, c363_3, e363, hx363_0, hx363_1, hx363_2, hx363_3, hl363_2, hi363_2, hl363_3, hi363_3⟩ := at_T46 (Kd.N_reads' HO_5.out).2.2 x10_1 p363 q363
         obtain rfl : ad355 = ad363 := (by injection e363)
         obtain ⟨ce363, hce363, hMe363, hcc363⟩ := Kd.N_get HO_5.out z46 x10_1 p363 (by first | exact q363 | exact of_decide_eq_true (by first | (with_reducible assumption) | assumption) | (have e_ := (Kd.N_reads' HO_5.out).1; omega))
         obtain ⟨ua363_2, uc363_2, ua363_3, uc363_3, rfl, ul363_2, ge363_2, ul363_3, ge363_3⟩ := k46_openF hMe363
         have hv363_2 := hcc363 2 _ rfl
         rw [add_field _ _ 2 (by omega)] at hv363_2
         replace hv363_2 := Option.some.inj (hv363_2.symm.trans hx363_2)
         injection hv363_2 with hva_ hvn_ hvc_
         rw [hva_] at ge363_2
         rw [hvc_] at ul363_2
         have HL363_2 := Aside0.mk (show Kd.V Kd.string 9 _ w.heap.size _ _ ((rd_T46 t347 x10_1).f2) from Kd.V_mk ul363_2 ge363_2)
         clear hva_ hvn_ hvc_ ge363_2 ul363_2
         have hv363_3 := hcc363 3 _ rfl
         rw [add_field _ _ 3 (by omega)] at hv363_3
         replace hv363_3 := Option.some.inj (hv363_3.symm.trans hx363_3)
         injection hv363_3 with hva_ hvn_ hvc_
         rw [hva_] at ge363_3
         rw [hvc_] at ul363_3
         have HL363_3 := Aside0.mk (show Kd.V Kd.string 9 _ w.heap.size _ _ ((rd_T46 t347 x10_1).f3) from Kd.V_mk ul363_3 ge363_3)
         clear hva_ hvn_ hvc_ ge363_3 ul363_3
         clear hcc363 hce363
         have HR363_2 := Aside0.mk hi363_2
         have HC363_2 := Aside0.mk hl363_2
         clear hi363_2 hl363_2
         have HR363_3 := Aside0.mk hi363_3
         have HC363_3 := Aside0.mk hl363_3
         clear hi363_3 hl363_3
         replace p363 := eq_true p363
         replace q363 := eq_true q363
         have ea_ := Option.some.inj (hx362_2.symm.trans hx363_2)
         injection ea_ with ea_ en_ ec_
         subst ea_
         subst ec_
         clear en_
         have ea_ := Option.some.inj (hx362_3.symm.trans hx363_3)
         injection ea_ with ea_ en_ ec_
         subst ea_
         subst ec_
         clear en_
         refine start_ (n := 14) (S := fun w' => w'.cell? (ad355.add ((x10_1).toNat * 4)) = some (.int .i64 ((rd_T46 t347 x10_1).f0)) ∧ w'.cell? ⟨(ad355.add ((x10_1).toNat * 4)).block, (ad355.add ((x10_1).toNat * 4)).off + 1, none⟩ = some (.int .i64 ((rd_T46 t347 x10_1).f1)) ∧ w'.cell? ⟨(ad355.add ((x10_1).toNat * 4)).block, (ad355.add ((x10_1).toNat * 4)).off + 2, none⟩ = some (.slice A362_2 ((rd_T46 t347 x10_1).f2).length c362_2) ∧ w'.cell? ⟨(ad355.add ((x10_1).toNat * 4)).block, (ad355.add ((x10_1).toNat * 4)).off + 3, none⟩ = some (.slice A362_3 ((rd_T46 t347 x10_1).f3).length c362_3) ∧ w'.cell? (ad355.add ((x10_1).toNat * 4)) = some (.int .i64 ((rd_T46 t347 x10_1).f0)) ∧ w'.cell? ⟨(ad355.add ((x10_1).toNat * 4)).block, (ad355.add ((x10_1).toNat * 4)).off + 1, none⟩ = some (.int .i64 ((rd_T46 t347 x10_1).f1)) ∧ w'.cell? ⟨(ad355.add ((x10_1).toNat * 4)).block, (ad355.add ((x10_1).toNat * 4)).off + 2, none⟩ = some (.slice A362_2 ((rd_T46 t347 x10_1).f2).length c362_2) ∧ w'.cell? ⟨(ad355.add ((x10_1).toNat * 4)).block, (ad355.add ((x10_1).toNat * 4)).off + 3, none⟩ = some (.slice A362_3 ((rd_T46 t347 x10_1).f3).length c362_3)) (ds := []) (vb 0 14) (by kernel_rfl) rfl rfl ⟨hx362_0, hx362_1, hx362_2, hx362_3, hx363_0, hx363_1, hx363_2, hx363_3⟩ (fun hHeld => ?_); refine with_tabW forebearlaw05_DiffBack.tab12 forebearlaw05_DiffBack.bits12 (fun HT_ HW_ => ?_)
         generalize w17.drew = w18 at HO_5 HO_7 HL355_2 HL355_3 HL356_2 HL356_3 HL357_2 HL357_3 HL358_2 HL358_3 HO361 HB HL362_2 HL362_3 HL363_2 HL363_3 HR362_2 HR362_3 HR363_2 HR363_3 hx362_0 hx362_1 hx362_2 hx362_3 hx363_0 hx363_1 hx363_2 hx363_3 hHeld ⊢
         refine pure_ (i := 0) (N := some 71) (v := ?_) (a' := ?_) (vb 1 14) rfl rfl (any_of HT_.out (by kernel_rfl)) (fun _ _ _ h => h) (Or.inl ⟨by rfl, ?_⟩) ?_ ?_
         rotate_left
         ·intro w'
          go_simp
          with_reducible rfl
         rotate_left
         ·simp only [Act.put, List.setIfInBounds_toArray, List.set_cons_zero, List.set_cons_succ, i64_w, i32_w]
          rfl
         refine pure_ (i := 1) (N := some 72) (v := ?_) (a' := ?_) (vb 3 14) rfl rfl (any_of HT_.out (by kernel_rfl)) (fun _ _ _ h => h) (Or.inl ⟨by rfl, ?_⟩) ?_ ?_
         rotate_left
         ·intro w'
          go_simp
          with_reducible rfl
         rotate_left
         ·simp only [Act.put, List.setIfInBounds_toArray, List.set_cons_zero, List.set_cons_succ, i64_w, i32_w]
          rfl
         refine pure_ (i := 2) (N := some 73) (v := ?_) (a' := ?_) (vb 7 14) rfl rfl (any_of HT_.out (by kernel_rfl)) (fun _ _ _ h => h) (Or.inl ⟨by rfl, ?_⟩) ?_ ?_
         rotate_left
         ·intro w'
          go_simp
          with_reducible rfl
         rotate_left
         ·simp only [Act.put, List.setIfInBounds_toArray, List.set_cons_zero, List.set_cons_succ, i64_w, i32_w]
          rfl
         refine pure_ (i := 3) (N := some 74) (v := ?_) (a' := ?_) (vb 15 14) rfl rfl (any_of HT_.out (by kernel_rfl)) (fun _ _ _ h => h) (Or.inl ⟨by rfl, ?_⟩) ?_ ?_
         rotate_left
         ·intro w'
          go_simp
          with_reducible rfl
         rotate_left
         ·simp only [Act.put, List.setIfInBounds_toArray, List.set_cons_zero, List.set_cons_succ, i64_w, i32_w]
          rfl
         refine pure_ (i := 6) (N := some 77) (v := ?_) (a' := ?_) (vb 79 14) rfl rfl (any_of HT_.out (by kernel_rfl)) (fun _ _ _ h => h) (Or.inl ⟨by rfl, ?_⟩) ?_ ?_
         rotate_left
         ·intro w'
          go_simp
          with_reducible rfl
         rotate_left
         ·simp only [Act.put, List.setIfInBounds_toArray, List.set_cons_zero, List.set_cons_succ, i64_w, i32_w]
          rfl
         refine pure_ (i := 7) (N := some 78) (v := ?_) (a' := ?_) (vb 207 14) rfl rfl (any_of HT_.out (by kernel_rfl)) (fun _ _ _ h => h) (Or.inl ⟨by rfl, ?_⟩) ?_ ?_
         rotate_left
         ·intro w'
          go_simp
          with_reducible rfl
         rotate_left
         ·simp only [Act.put, List.setIfInBounds_toArray, List.set_cons_zero, List.set_cons_succ, i64_w, i32_w]
          rfl
         refine pure_ (i := 8) (N := some 79) (v := ?_) (a' := ?_) (vb 463 14) rfl rfl (any_of HT_.out (by kernel_rfl)) (fun _ _ _ h => h) (Or.inl ⟨by rfl, ?_⟩) ?_ ?_
         rotate_left
         ·intro w'
          go_simp
          with_reducible rfl
         rotate_left
         ·simp only [Act.put, List.setIfInBounds_toArray, List.set_cons_zero, List.set_cons_succ, i64_w, i32_w]
          rfl
         refine pure_ (i := 9) (N := some 80) (v := ?_) (a' := ?_) (vb 975 14) rfl rfl (any_of HT_.out (by kernel_rfl)) (fun _ _ _ h => h) (Or.inl ⟨by rfl, ?_⟩) ?_ ?_
         rotate_left
         ·intro w'
          go_simp
          with_reducible rfl
         rotate_left
         ·simp only [Act.put, List.setIfInBounds_toArray, List.set_cons_zero, List.set_cons_succ, i64_w, i32_w]
          rfl
         refine take_ (i := 4) (N := some 75) (v := ?_) (a' := ?_) (vb 991 14) rfl rfl (take_ofW HT_.out HW_.out (by kernel_rfl)) (fun _ _ _ h => h) (Or.inl ⟨by rfl, ?_⟩) hHeld ?_ ?_
         rotate_left
         ·rintro w' ⟨s0, s1, s2, s3, s4, s5, s6, s7⟩
          go_simp
          with_reducible rfl
         rotate_left
         ·simp only [Act.put, List.setIfInBounds_toArray, List.set_cons_zero, List.set_cons_succ, i64_w, i32_w]
          rfl
         refine pure_ (i := 5) (N := some 76) (v := ?_) (a' := ?_) (vb 1023 14) rfl rfl (any_of HT_.out (by kernel_rfl)) (fun _ _ _ h => h) (Or.inl ⟨by rfl, ?_⟩) ?_ ?_
         rotate_left
         ·intro w'
          go_simp
          with_reducible rfl
         rotate_left
         ·simp only [Act.put, List.setIfInBounds_toArray, List.set_cons_zero, List.set_cons_succ, i64_w, i32_w]
          rfl
         refine take_ (i := 10) (N := some 81) (v := ?_) (a' := ?_) (vb 2047 14) rfl rfl (take_ofW HT_.out HW_.out (by kernel_rfl)) (fun _ _ _ h => h) (Or.inl ⟨by rfl, ?_⟩) hHeld ?_ ?_
         rotate_left
         ·rintro w' ⟨s0, s1, s2, s3, s4, s5, s6, s7⟩
          go_simp
          with_reducible rfl
         rotate_left
         ·simp only [Act.put, List.setIfInBounds_toArray, List.set_cons_zero, List.set_cons_succ, i64_w, i32_w]
          rfl
         refine pure_ (i := 11) (N := some 82) (v := ?_) (a' := ?_) (vb 4095 14) rfl rfl (any_of HT_.out (by kernel_rfl)) (fun _ _ _ h => h) (Or.inl ⟨by rfl, ?_⟩) ?_ ?_
         rotate_left
         ·intro w'
          go_simp
          with_reducible rfl
         rotate_left
         ·simp only [Act.put, List.setIfInBounds_toArray, List.set_cons_zero, List.set_cons_succ, i64_w, i32_w]
          rfl
         refine pure_ (i := 12) (N := some 83) (v := ?_) (a' := ?_) (vb 8191 14) rfl rfl (any_of HT_.out (by kernel_rfl)) (fun _ _ _ h => h) (Or.inl ⟨by rfl, ?_⟩) ?_ ?_
         rotate_left
         ·intro w'
          go_simp
          with_reducible rfl
         rotate_left
         ·simp only [Act.put, List.setIfInBounds_toArray, List.set_cons_zero, List.set_cons_succ, i64_w, i32_w]
          rfl
         refine pure_ (i := 13) (N := some 84) (v := ?_) (a' := ?_) (vb 16383 14) rfl rfl (any_of HT_.out (by kernel_rfl)) (fun _ _ _ h => h) (Or.inl ⟨by rfl, ?_⟩) ?_ ?_
         rotate_left
         ·intro w'
          go_simp
          with_reducible rfl
         rotate_left
         ·simp only [Act.put, List.setIfInBounds_toArray, List.set_cons_zero, List.set_cons_succ, i64_w, i32_w]
          rfl
         refine done_ (done_of HT_.out (by kernel_rfl)) ?_
         try go_wp2
         go_ret
         exact ⟨by first | rfl | (simp [errW_none, errW_some] <;> rfl) | (simp [*, errW_none, errW_some] <;> rfl), by repeat (first | (with_reducible first | exact HB.out | apply below_alloc | apply pw_below_drewN | apply below_drew1) | exact HB.out)⟩
        ·rw [if_neg c15] at H
         have c15b0 : ((wrap64 ((((rd_T46 t347 x10_1).f2).length : Int) + (((rd_T46 t347 x10_1).f3).length : Int))) == 0) = false := beq_eq_false_iff_ne.mpr c15
         have c15b1 : ((wrap64 ((((rd_T46 t347 x10_1).f2).length : Int) + (((rd_T46 t347 x10_1).f3).length : Int))) != 0) = true := bne_iff_ne.mpr c15
         have H' := Aside0.mk H
         clear H
         try go_wp2
         have n0_ := Aside0.mk (Kd.N_drew HO_5.out)
         have n1_ := Aside0.mk (Kd.R_drew HO_7.out)
         have n2_ := Aside0.mk (Kd.N_drew HO_9.out)
         have n3_ := Aside0.mk (below_drew1 HB.out)
         clear HO_5
         clear HO_7
         clear HO_9
         clear HB
         have HO_5 := n0_
         have HO_7 := n1_
         have HO_9 := n2_
         have HB := n3_
         clear n0_ n1_ n2_ n3_
         have p355 : 0 ≤ (x10_1 : Int) := of_decide_eq_true (by first | (with_reducible assumption) | assumption)
         have q355 : x10_1 < (t347.length : Int) := of_decide_eq_true (by first | (with_reducible assumption) | assumption)
         obtain ⟨ad355, A355_2, c355_2, A355_3, c355_3, e355, hx355_0, hx355_1, hx355_2, hx355_3, hl355_2, hi355_2, hl355_3, hi355_3⟩ := at_T46 (Kd.N_reads' HO_5.out).2.2 x10_1 p355 q355
         cases e355
         obtain ⟨ce355, hce355, hMe355, hcc355⟩ := Kd.N_get HO_5.out z46 x10_1 p355 (by first | exact q355 | exact of_decide_eq_true (by first | (with_reducible assumption) | assumption) | (have e_ := (Kd.N_reads' HO_5.out).1; omega))
         obtain ⟨ua355_2, uc355_2, ua355_3, uc355_3, rfl, ul355_2, ge355_2, ul355_3, ge355_3⟩ := k46_openF hMe355
         have hv355_2 := hcc355 2 _ rfl
         rw [add_field _ _ 2 (by omega)] at hv355_2
         replace hv355_2 := Option.some.inj (hv355_2.symm.trans hx355_2)
         injection hv355_2 with hva_ hvn_ hvc_
         rw [hva_] at ge355_2
         rw [hvc_] at ul355_2
         have HL355_2 := Aside0.mk (show Kd.V Kd.string 9 _ w.heap.size _ _ ((rd_T46 t347 x10_1).f2) from Kd.V_mk ul355_2 ge355_2)
         clear hva_ hvn_ hvc_ ge355_2 ul355_2
         have hv355_3 := hcc355 3 _ rfl
         rw [add_field _ _ 3 (by omega)] at hv355_3
         replace hv355_3 := Option.some.inj (hv355_3.symm.trans hx355_3)
         injection hv355_3 with hva_ hvn_ hvc_
         rw [hva_] at ge355_3
         rw [hvc_] at ul355_3
         have HL355_3 := Aside0.mk (show Kd.V Kd.string 9 _ w.heap.size _ _ ((rd_T46 t347 x10_1).f3) from Kd.V_mk ul355_3 ge355_3)
         clear hva_ hvn_ hvc_ ge355_3 ul355_3
         clear hcc355 hce355
         have HR355_2 := Aside0.mk hi355_2
         have HC355_2 := Aside0.mk hl355_2
         clear hi355_2 hl355_2
         have HR355_3 := Aside0.mk hi355_3
         have HC355_3 := Aside0.mk hl355_3
         clear hi355_3 hl355_3
         replace p355 := eq_true p355
         replace q355 := eq_true q355
         have p356 : 0 ≤ (x10_1 : Int) := of_decide_eq_true (by first | (with_reducible assumption) | assumption)
         have q356 : x10_1 < (t347.length : Int) := of_decide_eq_true (by first | (with_reducible assumption) | assumption)
         obtain ⟨ad356, A356_2, c356_2, A356_3, c356_3, e356, hx356_0, hx356_1, hx356_2, hx356_3, hl356_2, hi356_2, hl356_3, hi356_3⟩ := at_T46 (Kd.N_reads' HO_5.out).2.2 x10_1 p356 q356
         obtain rfl : ad355 = ad356 := (by injection e356)
         obtain ⟨ce356, hce356, hMe356, hcc356⟩ := Kd.N_get HO_5.out z46 x10_1 p356 (by first | exact q356 | exact of_decide_eq_true (by first | (with_reducible assumption) | assumption) | (have e_ := (Kd.N_reads' HO_5.out).1; omega))
         obtain ⟨ua356_2, uc356_2, ua356_3, uc356_3, rfl, ul356_2, ge356_2, ul356_3, ge356_3⟩ := k46_openF hMe356
         have hv356_2 := hcc356 2 _ rfl
         rw [add_field _ _ 2 (by omega)] at hv356_2
         replace hv356_2 := Option.some.inj (hv356_2.symm.trans hx356_2)
         injection hv356_2 with hva_ hvn_ hvc_
         rw [hva_] at ge356_2
         rw [hvc_] at ul356_2
         have HL356_2 := Aside0.mk (show Kd.V Kd.string 9 _ w.heap.size _ _ ((rd_T46 t347 x10_1).f2) from Kd.V_mk ul356_2 ge356_2)
         clear hva_ hvn_ hvc_ ge356_2 ul356_2
         have hv356_3 := hcc356 3 _ rfl
         rw [add_field _ _ 3 (by omega)] at hv356_3
         replace hv356_3 := Option.some.inj (hv356_3.symm.trans hx356_3)
         injection hv356_3 with hva_ hvn_ hvc_
         rw [hva_] at ge356_3
         rw [hvc_] at ul356_3
         have HL356_3 := Aside0.mk (show Kd.V Kd.string 9 _ w.heap.size _ _ ((rd_T46 t347 x10_1).f3) from Kd.V_mk ul356_3 ge356_3)
         clear hva_ hvn_ hvc_ ge356_3 ul356_3
         clear hcc356 hce356
         have HR356_2 := Aside0.mk hi356_2
         have HC356_2 := Aside0.mk hl356_2
         clear hi356_2 hl356_2
         have HR356_3 := Aside0.mk hi356_3
         have HC356_3 := Aside0.mk hl356_3
         clear hi356_3 hl356_3
         replace p356 := eq_true p356
         replace q356 := eq_true q356
         have ea_ := Option.some.inj (hx355_2.symm.trans hx356_2)
         injection ea_ with ea_ en_ ec_
         subst ea_
         subst ec_
         clear en_
         have ea_ := Option.some.inj (hx355_3.symm.trans hx356_3)
         injection ea_ with ea_ en_ ec_
         subst ea_
         subst ec_
         clear en_
         have p357 : 0 ≤ (x10_1 : Int) := of_decide_eq_true (by first | (with_reducible assumption) | assumption)
         have q357 : x10_1 < (t347.length : Int) := of_decide_eq_true (by first | (with_reducible assumption) | assumption)
         obtain ⟨ad357, A357_2, c357_2, A357_3, c357_3, e357, hx357_0, hx357_1, hx357_2, hx357_3, hl357_2, hi357_2, hl357_3, hi357_3⟩ := at_T46 (Kd.N_reads' HO_5.out).2.2 x10_1 p357 q357
         obtain rfl : ad355 = ad357 := (by injection e357)
         obtain ⟨ce357, hce357, hMe357, hcc357⟩ := Kd.N_get HO_5.out z46 x10_1 p357 (by first | exact q357 | exact of_decide_eq_true (by first | (with_reducible assumption) | assumption) | (have e_ := (Kd.N_reads' HO_5.out).1; omega))
         obtain ⟨ua357_2, uc357_2, ua357_3, uc357_3, rfl, ul357_2, ge357_2, ul357_3, ge357_3⟩ := k46_openF hMe357
         have hv357_2 := hcc357 2 _ rfl
         rw [add_field _ _ 2 (by omega)] at hv357_2
         replace hv357_2 := Option.some.inj (hv357_2.symm.trans hx357_2)
         injection hv357_2 with hva_ hvn_ hvc_
         rw [hva_] at ge357_2
         rw [hvc_] at ul357_2
         have HL357_2 := Aside0.mk (show Kd.V Kd.string 9 _ w.heap.size _ _ ((rd_T46 t347 x10_1).f2) from Kd.V_mk ul357_2 ge357_2)
         clear hva_ hvn_ hvc_ ge357_2 ul357_2
         have hv357_3 := hcc357 3 _ rfl
         rw [add_field _ _ 3 (by omega)] at hv357_3
         replace hv357_3 := Option.some.inj (hv357_3.symm.trans hx357_3)
         injection hv357_3 with hva_ hvn_ hvc_
         rw [hva_] at ge357_3
         rw [hvc_] at ul357_3
         have HL357_3 := Aside0.mk (show Kd.V Kd.string 9 _ w.heap.size _ _ ((rd_T46 t347 x10_1).f3) from Kd.V_mk ul357_3 ge357_3)
         clear hva_ hvn_ hvc_ ge357_3 ul357_3
         clear hcc357 hce357
         have HR357_2 := Aside0.mk hi357_2
         have HC357_2 := Aside0.mk hl357_2
         clear hi357_2 hl357_2
         have HR357_3 := Aside0.mk hi357_3
         have HC357_3 := Aside0.mk hl357_3
         clear hi357_3 hl357_3
         replace p357 := eq_true p357
         replace q357 := eq_true q357
         have ea_ := Option.some.inj (hx355_2.symm.trans hx357_2)
         injection ea_ with ea_ en_ ec_
         subst ea_
         subst ec_
         clear en_
         have ea_ := Option.some.inj (hx355_3.symm.trans hx357_3)
         injection ea_ with ea_ en_ ec_
         subst ea_
         subst ec_
         clear en_
         have p358 : 0 ≤ (x10_1 : Int) := of_decide_eq_true (by first | (with_reducible assumption) | assumption)
         have q358 : x10_1 < (t347.length : Int) := of_decide_eq_true (by first | (with_reducible assumption) | assumption)
         obtain ⟨ad358, A358_2, c358_2, A358_3, c358_3, e358, hx358_0, hx358_1, hx358_2, hx358_3, hl358_2, hi358_2, hl358_3, hi358_3⟩ := at_T46 (Kd.N_reads' HO_5.out).2.2 x10_1 p358 q358
         obtain rfl : ad355 = ad358 := (by injection e358)
         obtain ⟨ce358, hce358, hMe358, hcc358⟩ := Kd.N_get HO_5.out z46 x10_1 p358 (by first | exact q358 | exact of_decide_eq_true (by first | (with_reducible assumption) | assumption) | (have e_ := (Kd.N_reads' HO_5.out).1; omega))
         obtain ⟨ua358_2, uc358_2, ua358_3, uc358_3, rfl, ul358_2, ge358_2, ul358_3, ge358_3⟩ := k46_openF hMe358
         have hv358_2 := hcc358 2 _ rfl
         rw [add_field _ _ 2 (by omega)] at hv358_2
         replace hv358_2 := Option.some.inj (hv358_2.symm.trans hx358_2)
         injection hv358_2 with hva_ hvn_ hvc_
         rw [hva_] at ge358_2
         rw [hvc_] at ul358_2
         have HL358_2 := Aside0.mk (show Kd.V Kd.string 9 _ w.heap.size _ _ ((rd_T46 t347 x10_1).f2) from Kd.V_mk ul358_2 ge358_2)
         clear hva_ hvn_ hvc_ ge358_2 ul358_2
         have hv358_3 := hcc358 3 _ rfl
         rw [add_field _ _ 3 (by omega)] at hv358_3
         replace hv358_3 := Option.some.inj (hv358_3.symm.trans hx358_3)
         injection hv358_3 with hva_ hvn_ hvc_
         rw [hva_] at ge358_3
         rw [hvc_] at ul358_3
         have HL358_3 := Aside0.mk (show Kd.V Kd.string 9 _ w.heap.size _ _ ((rd_T46 t347 x10_1).f3) from Kd.V_mk ul358_3 ge358_3)
         clear hva_ hvn_ hvc_ ge358_3 ul358_3
         clear hcc358 hce358
         have HR358_2 := Aside0.mk hi358_2
         have HC358_2 := Aside0.mk hl358_2
         clear hi358_2 hl358_2
         have HR358_3 := Aside0.mk hi358_3
         have HC358_3 := Aside0.mk hl358_3
         clear hi358_3 hl358_3
         replace p358 := eq_true p358
         replace q358 := eq_true q358
         have ea_ := Option.some.inj (hx355_2.symm.trans hx358_2)
         injection ea_ with ea_ en_ ec_
         subst ea_
         subst ec_
         clear en_
         have ea_ := Option.some.inj (hx355_3.symm.trans hx358_3)
         injection ea_ with ea_ en_ ec_
         subst ea_
         subst ec_
         clear en_
         refine start_ (n := 25) (S := fun w' => w'.cell? (ad355.add ((x10_1).toNat * 4)) = some (.int .i64 ((rd_T46 t347 x10_1).f0)) ∧ w'.cell? ⟨(ad355.add ((x10_1).toNat * 4)).block, (ad355.add ((x10_1).toNat * 4)).off + 1, none⟩ = some (.int .i64 ((rd_T46 t347 x10_1).f1)) ∧ w'.cell? ⟨(ad355.add ((x10_1).toNat * 4)).block, (ad355.add ((x10_1).toNat * 4)).off + 2, none⟩ = some (.slice A355_2 ((rd_T46 t347 x10_1).f2).length c355_2) ∧ w'.cell? ⟨(ad355.add ((x10_1).toNat * 4)).block, (ad355.add ((x10_1).toNat * 4)).off + 3, none⟩ = some (.slice A355_3 ((rd_T46 t347 x10_1).f3).length c355_3) ∧ w'.cell? (ad355.add ((x10_1).toNat * 4)) = some (.int .i64 ((rd_T46 t347 x10_1).f0)) ∧ w'.cell? ⟨(ad355.add ((x10_1).toNat * 4)).block, (ad355.add ((x10_1).toNat * 4)).off + 1, none⟩ = some (.int .i64 ((rd_T46 t347 x10_1).f1)) ∧ w'.cell? ⟨(ad355.add ((x10_1).toNat * 4)).block, (ad355.add ((x10_1).toNat * 4)).off + 2, none⟩ = some (.slice A355_2 ((rd_T46 t347 x10_1).f2).length c355_2) ∧ w'.cell? ⟨(ad355.add ((x10_1).toNat * 4)).block, (ad355.add ((x10_1).toNat * 4)).off + 3, none⟩ = some (.slice A355_3 ((rd_T46 t347 x10_1).f3).length c355_3) ∧ w'.cell? (ad355.add ((x10_1).toNat * 4)) = some (.int .i64 ((rd_T46 t347 x10_1).f0)) ∧ w'.cell? ⟨(ad355.add ((x10_1).toNat * 4)).block, (ad355.add ((x10_1).toNat * 4)).off + 1, none⟩ = some (.int .i64 ((rd_T46 t347 x10_1).f1)) ∧ w'.cell? ⟨(ad355.add ((x10_1).toNat * 4)).block, (ad355.add ((x10_1).toNat * 4)).off + 2, none⟩ = some (.slice A355_2 ((rd_T46 t347 x10_1).f2).length c355_2) ∧ w'.cell? ⟨(ad355.add ((x10_1).toNat * 4)).block, (ad355.add ((x10_1).toNat * 4)).off + 3, none⟩ = some (.slice A355_3 ((rd_T46 t347 x10_1).f3).length c355_3) ∧ w'.cell? (ad355.add ((x10_1).toNat * 4)) = some (.int .i64 ((rd_T46 t347 x10_1).f0)) ∧ w'.cell? ⟨(ad355.add ((x10_1).toNat * 4)).block, (ad355.add ((x10_1).toNat * 4)).off + 1, none⟩ = some (.int .i64 ((rd_T46 t347 x10_1).f1)) ∧ w'.cell? ⟨(ad355.add ((x10_1).toNat * 4)).block, (ad355.add ((x10_1).toNat * 4)).off + 2, none⟩ = some (.slice A355_2 ((rd_T46 t347 x10_1).f2).length c355_2) ∧ w'.cell? ⟨(ad355.add ((x10_1).toNat * 4)).block, (ad355.add ((x10_1).toNat * 4)).off + 3, none⟩ = some (.slice A355_3 ((rd_T46 t347 x10_1).f3).length c355_3)) (ds := [22, 23]) (vb 0 25) (by kernel_rfl) rfl rfl ⟨hx355_0, hx355_1, hx355_2, hx355_3, hx356_0, hx356_1, hx356_2, hx356_3, hx357_0, hx357_1, hx357_2, hx357_3, hx358_0, hx358_1, hx358_2, hx358_3⟩ (fun hHeld => ?_); refine with_tabW forebearlaw05_DiffBack.tab11 forebearlaw05_DiffBack.bits11 (fun HT_ HW_ => ?_)
         generalize wr.drew = w19 at HO_5 HO_7 HO_9 HB HL355_2 HL355_3 HL356_2 HL356_3 HL357_2 HL357_3 HL358_2 HL358_3 HR355_2 HR355_3 HR356_2 HR356_3 HR357_2 HR357_3 HR358_2 HR358_3 hx355_0 hx355_1 hx355_2 hx355_3 hx356_0 hx356_1 hx356_2 hx356_3 hx357_0 hx357_1 hx357_2 hx357_3 hx358_0 hx358_1 hx358_2 hx358_3 hHeld ⊢
         refine pure_ (i := 0) (N := some 47) (v := ?_) (a' := ?_) (vb 1 25) rfl rfl (any_of HT_.out (by kernel_rfl)) (fun _ _ _ h => h) (Or.inl ⟨by rfl, ?_⟩) ?_ ?_
         rotate_left
         ·intro w'
          go_simp
          with_reducible rfl
         rotate_left
         ·simp only [Act.put, List.setIfInBounds_toArray, List.set_cons_zero, List.set_cons_succ, i64_w, i32_w]
          rfl
         refine pure_ (i := 1) (N := some 48) (v := ?_) (a' := ?_) (vb 3 25) rfl rfl (any_of HT_.out (by kernel_rfl)) (fun _ _ _ h => h) (Or.inl ⟨by rfl, ?_⟩) ?_ ?_
         rotate_left
         ·intro w'
          go_simp
          with_reducible rfl
         rotate_left
         ·simp only [Act.put, List.setIfInBounds_toArray, List.set_cons_zero, List.set_cons_succ, i64_w, i32_w]
          rfl
         refine pure_ (i := 2) (N := some 49) (v := ?_) (a' := ?_) (vb 7 25) rfl rfl (any_of HT_.out (by kernel_rfl)) (fun _ _ _ h => h) (Or.inl ⟨by rfl, ?_⟩) ?_ ?_
         rotate_left
         ·intro w'
          go_simp
          with_reducible rfl
         rotate_left
         ·simp only [Act.put, List.setIfInBounds_toArray, List.set_cons_zero, List.set_cons_succ, i64_w, i32_w]
          rfl
         refine pure_ (i := 3) (N := some 50) (v := ?_) (a' := ?_) (vb 15 25) rfl rfl (any_of HT_.out (by kernel_rfl)) (fun _ _ _ h => h) (Or.inl ⟨by rfl, ?_⟩) ?_ ?_
         rotate_left
         ·intro w'
          go_simp
          with_reducible rfl
         rotate_left
         ·simp only [Act.put, List.setIfInBounds_toArray, List.set_cons_zero, List.set_cons_succ, i64_w, i32_w]
          rfl
         refine pure_ (i := 4) (N := some 51) (v := ?_) (a' := ?_) (vb 31 25) rfl rfl (any_of HT_.out (by kernel_rfl)) (fun _ _ _ h => h) (Or.inl ⟨by rfl, ?_⟩) ?_ ?_
         rotate_left
         ·intro w'
          go_simp
          with_reducible rfl
         rotate_left
         ·simp only [Act.put, List.setIfInBounds_toArray, List.set_cons_zero, List.set_cons_succ, i64_w, i32_w]
          rfl
         refine pure_ (i := 6) (N := some 53) (v := ?_) (a' := ?_) (vb 95 25) rfl rfl (any_of HT_.out (by kernel_rfl)) (fun _ _ _ h => h) (Or.inl ⟨by rfl, ?_⟩) ?_ ?_
         rotate_left
         ·intro w'
          go_simp
          with_reducible rfl
         rotate_left
         ·simp only [Act.put, List.setIfInBounds_toArray, List.set_cons_zero, List.set_cons_succ, i64_w, i32_w]
          rfl
         refine pure_ (i := 7) (N := some 54) (v := ?_) (a' := ?_) (vb 223 25) rfl rfl (any_of HT_.out (by kernel_rfl)) (fun _ _ _ h => h) (Or.inl ⟨by rfl, ?_⟩) ?_ ?_
         rotate_left
         ·intro w'
          go_simp
          with_reducible rfl
         rotate_left
         ·simp only [Act.put, List.setIfInBounds_toArray, List.set_cons_zero, List.set_cons_succ, i64_w, i32_w]
          rfl
         refine pure_ (i := 8) (N := some 55) (v := ?_) (a' := ?_) (vb 479 25) rfl rfl (any_of HT_.out (by kernel_rfl)) (fun _ _ _ h => h) (Or.inl ⟨by rfl, ?_⟩) ?_ ?_
         rotate_left
         ·intro w'
          go_simp
          with_reducible rfl
         rotate_left
         ·simp only [Act.put, List.setIfInBounds_toArray, List.set_cons_zero, List.set_cons_succ, i64_w, i32_w]
          rfl
         refine pure_ (i := 9) (N := some 56) (v := ?_) (a' := ?_) (vb 991 25) rfl rfl (any_of HT_.out (by kernel_rfl)) (fun _ _ _ h => h) (Or.inl ⟨by rfl, ?_⟩) ?_ ?_
         rotate_left
         ·intro w'
          go_simp
          with_reducible rfl
         rotate_left
         ·simp only [Act.put, List.setIfInBounds_toArray, List.set_cons_zero, List.set_cons_succ, i64_w, i32_w]
          rfl
         refine pure_ (i := 11) (N := some 58) (v := ?_) (a' := ?_) (vb 3039 25) rfl rfl (any_of HT_.out (by kernel_rfl)) (fun _ _ _ h => h) (Or.inl ⟨by rfl, ?_⟩) ?_ ?_
         rotate_left
         ·intro w'
          go_simp
          with_reducible rfl
         rotate_left
         ·simp only [Act.put, List.setIfInBounds_toArray, List.set_cons_zero, List.set_cons_succ, i64_w, i32_w]
          rfl
         refine pure_ (i := 12) (N := some 59) (v := ?_) (a' := ?_) (vb 7135 25) rfl rfl (any_of HT_.out (by kernel_rfl)) (fun _ _ _ h => h) (Or.inl ⟨by rfl, ?_⟩) ?_ ?_
         rotate_left
         ·intro w'
          go_simp
          with_reducible rfl
         rotate_left
         ·simp only [Act.put, List.setIfInBounds_toArray, List.set_cons_zero, List.set_cons_succ, i64_w, i32_w]
          rfl
         refine pure_ (i := 13) (N := some 60) (v := ?_) (a' := ?_) (vb 15327 25) rfl rfl (any_of HT_.out (by kernel_rfl)) (fun _ _ _ h => h) (Or.inl ⟨by rfl, ?_⟩) ?_ ?_
         rotate_left
         ·intro w'
          go_simp
          with_reducible rfl
         rotate_left
         ·simp only [Act.put, List.setIfInBounds_toArray, List.set_cons_zero, List.set_cons_succ, i64_w, i32_w]
          rfl
         refine pure_ (i := 14) (N := some 61) (v := ?_) (a' := ?_) (vb 31711 25) rfl rfl (any_of HT_.out (by kernel_rfl)) (fun _ _ _ h => h) (Or.inl ⟨by rfl, ?_⟩) ?_ ?_
         rotate_left
         ·intro w'
          go_simp
          with_reducible rfl
         rotate_left
         ·simp only [Act.put, List.setIfInBounds_toArray, List.set_cons_zero, List.set_cons_succ, i64_w, i32_w]
          rfl
         refine pure_ (i := 16) (N := some 63) (v := ?_) (a' := ?_) (vb 97247 25) rfl rfl (any_of HT_.out (by kernel_rfl)) (fun _ _ _ h => h) (Or.inl ⟨by rfl, ?_⟩) ?_ ?_
         rotate_left
         ·intro w'
          go_simp
          with_reducible rfl
         rotate_left
         ·simp only [Act.put, List.setIfInBounds_toArray, List.set_cons_zero, List.set_cons_succ, i64_w, i32_w]
          rfl
         refine pure_ (i := 17) (N := some 64) (v := ?_) (a' := ?_) (vb 228319 25) rfl rfl (any_of HT_.out (by kernel_rfl)) (fun _ _ _ h => h) (Or.inl ⟨by rfl, ?_⟩) ?_ ?_
         rotate_left
         ·intro w'
          go_simp
          with_reducible rfl
         rotate_left
         ·simp only [Act.put, List.setIfInBounds_toArray, List.set_cons_zero, List.set_cons_succ, i64_w, i32_w]
          rfl
         refine pure_ (i := 18) (N := some 65) (v := ?_) (a' := ?_) (vb 490463 25) rfl rfl (any_of HT_.out (by kernel_rfl)) (fun _ _ _ h => h) (Or.inl ⟨by rfl, ?_⟩) ?_ ?_
         rotate_left
         ·intro w'
          go_simp
          with_reducible rfl
         rotate_left
         ·simp only [Act.put, List.setIfInBounds_toArray, List.set_cons_zero, List.set_cons_succ, i64_w, i32_w]
          rfl
         refine pure_ (i := 19) (N := some 66) (v := ?_) (a' := ?_) (vb 1014751 25) rfl rfl (any_of HT_.out (by kernel_rfl)) (fun _ _ _ h => h) (Or.inl ⟨by rfl, ?_⟩) ?_ ?_
         rotate_left
         ·intro w'
          go_simp
          with_reducible rfl
         rotate_left
         ·simp only [Act.put, List.setIfInBounds_toArray, List.set_cons_zero, List.set_cons_succ, i64_w, i32_w]
          rfl
         refine take_ (i := 5) (N := some 52) (v := ?_) (a' := ?_) (vb 1014783 25) rfl rfl (take_ofW HT_.out HW_.out (by kernel_rfl)) (fun _ _ _ h => h) (Or.inl ⟨by rfl, ?_⟩) hHeld ?_ ?_
         rotate_left
         ·rintro w' ⟨s0, s1, s2, s3, s4, s5, s6, s7, s8, s9, s10, s11, s12, s13, s14, s15⟩
          go_simp
          with_reducible rfl
         rotate_left
         ·simp only [Act.put, List.setIfInBounds_toArray, List.set_cons_zero, List.set_cons_succ, i64_w, i32_w]
          rfl
         refine take_ (i := 10) (N := some 57) (v := ?_) (a' := ?_) (vb 1015807 25) rfl rfl (take_ofW HT_.out HW_.out (by kernel_rfl)) (fun _ _ _ h => h) (Or.inl ⟨by rfl, ?_⟩) hHeld ?_ ?_
         rotate_left
         ·rintro w' ⟨s0, s1, s2, s3, s4, s5, s6, s7, s8, s9, s10, s11, s12, s13, s14, s15⟩
          go_simp
          with_reducible rfl
         rotate_left
         ·simp only [Act.put, List.setIfInBounds_toArray, List.set_cons_zero, List.set_cons_succ, i64_w, i32_w]
          rfl
         refine take_ (i := 15) (N := some 62) (v := ?_) (a' := ?_) (vb 1048575 25) rfl rfl (take_ofW HT_.out HW_.out (by kernel_rfl)) (fun _ _ _ h => h) (Or.inl ⟨by rfl, ?_⟩) hHeld ?_ ?_
         rotate_left
         ·rintro w' ⟨s0, s1, s2, s3, s4, s5, s6, s7, s8, s9, s10, s11, s12, s13, s14, s15⟩
          go_simp
          with_reducible rfl
         rotate_left
         ·simp only [Act.put, List.setIfInBounds_toArray, List.set_cons_zero, List.set_cons_succ, i64_w, i32_w]
          rfl
         refine take_ (i := 20) (N := some 67) (v := ?_) (a' := ?_) (vb 2097151 25) rfl rfl (take_ofW HT_.out HW_.out (by kernel_rfl)) (fun _ _ _ h => h) (Or.inl ⟨by rfl, ?_⟩) hHeld ?_ ?_
         rotate_left
         ·rintro w' ⟨s0, s1, s2, s3, s4, s5, s6, s7, s8, s9, s10, s11, s12, s13, s14, s15⟩
          go_simp
          with_reducible rfl
         rotate_left
         ·simp only [Act.put, List.setIfInBounds_toArray, List.set_cons_zero, List.set_cons_succ, i64_w, i32_w]
          rfl
         refine pure_ (i := 21) (N := some 68) (v := ?_) (a' := ?_) (vb 4194303 25) rfl rfl (any_of HT_.out (by kernel_rfl)) (fun _ _ _ h => h) (Or.inl ⟨by rfl, ?_⟩) ?_ ?_
         rotate_left
         ·intro w'
          go_simp
          with_reducible rfl
         rotate_left
         ·simp only [Act.put, List.setIfInBounds_toArray, List.set_cons_zero, List.set_cons_succ, i64_w, i32_w]
          rfl
         refine last_ (i := 22) (N := some 69) (vb 8388607 25) rfl rfl (one_of HT_.out (by kernel_rfl)) (by decide) (fun K hK => ?_)
         refine value_ (w1 := ?_) (v := ?_) (by rfl) rfl ?_ ?_
         rotate_left 2
         ·go_simp
          constructor
          ·rfl
          ·rfl
         refine hK.out _ _ ?_
         clear hK K
         refine norm_ (a' := ?_) ?_ ?_
         rotate_left
         ·show Act.put _ (some 69) _ = _
          simp only [Act.put, List.setIfInBounds_toArray, List.set_cons_zero, List.set_cons_succ, i64_w, i32_w]
          rfl
         refine last_ (i := 23) (N := some 70) (vb 16777215 25) rfl rfl (one_of HT_.out (by kernel_rfl)) (by decide) (fun K hK => ?_)
         refine Kd.N_append_step k46 (w0 := w) w.heap.size (by rfl) (.tmp 47) (.tmp 69) 31 46 (.agg #[(.int .i64 0), (.int .i64 0), (.slice none 0 0), (.slice none 0 0)]) 64 rfl Try.underlying31 info46 rfl (by decide) (by omega) u9 x9_1 (⟨(rd_T46 t347 x10_1).f1, (rd_T46 t347 x10_1).f0, (rd_T46 t347 x10_1).f3, (rd_T46 t347 x10_1).f2⟩ : S46) [.int .i64 ((rd_T46 t347 x10_1).f1), .int .i64 ((rd_T46 t347 x10_1).f0), .slice A355_3 ((rd_T46 t347 x10_1).f3).length c355_3, .slice A355_2 ((rd_T46 t347 x10_1).f2).length c355_2] (fun k_ => some k_ ≠ (.slice (some ad355) t347.length co10 : Value).ownBlock ∧ some k_ ≠ (v353 : Value).ownBlock) (fun k_ => ((fun k_ => some k_ ≠ (.slice (some ad355) t347.length co10 : Value).ownBlock ∧ some k_ ≠ (v353 : Value).ownBlock)) k_ ∧ some k_ ≠ (u9 : Value).ownBlock) rfl rfl ?aP (fun _ hk => hk) ?aF ?aO ?aB ?aS ?aL ?_
         (case aP => exact (k46_mkF _ _ (⟨(rd_T46 t347 x10_1).f1, (rd_T46 t347 x10_1).f0, (rd_T46 t347 x10_1).f3, (rd_T46 t347 x10_1).f2⟩ : S46) (Kd.V_reads' (Kd.V_mono (e := 0) (base := 0) (ok' := (fun k_ => ((fun k_ => some k_ ≠ (.slice (some ad355) t347.length co10 : Value).ownBlock ∧ some k_ ≠ (v353 : Value).ownBlock)) k_ ∧ some k_ ≠ (u9 : Value).ownBlock)) (HL357_3.out) (fun k_ hk => ⟨⟨hk.2, hk.1.1⟩, hk.1.2⟩))).2.1 (Kd.V_F (Kd.V_mono (e := 0) (base := 0) (ok' := (fun k_ => ((fun k_ => some k_ ≠ (.slice (some ad355) t347.length co10 : Value).ownBlock ∧ some k_ ≠ (v353 : Value).ownBlock)) k_ ∧ some k_ ≠ (u9 : Value).ownBlock)) (HL357_3.out) (fun k_ hk => ⟨⟨hk.2, hk.1.1⟩, hk.1.2⟩))) (Kd.V_reads' (Kd.V_mono (e := 0) (base := 0) (ok' := (fun k_ => ((fun k_ => some k_ ≠ (.slice (some ad355) t347.length co10 : Value).ownBlock ∧ some k_ ≠ (v353 : Value).ownBlock)) k_ ∧ some k_ ≠ (u9 : Value).ownBlock)) (HL358_2.out) (fun k_ hk => ⟨⟨hk.2, hk.1.1⟩, hk.1.2⟩))).2.1 (Kd.V_F (Kd.V_mono (e := 0) (base := 0) (ok' := (fun k_ => ((fun k_ => some k_ ≠ (.slice (some ad355) t347.length co10 : Value).ownBlock ∧ some k_ ≠ (v353 : Value).ownBlock)) k_ ∧ some k_ ≠ (u9 : Value).ownBlock)) (HL358_2.out) (fun k_ hk => ⟨⟨hk.2, hk.1.1⟩, hk.1.2⟩)))))
         (case aB => exact (by repeat (first | (with_reducible first | exact HB.out | apply below_alloc | apply pw_below_drewN | apply below_drew1) | exact HB.out)))
         (case aF => exact (fun k_ hk => ⟨Kd.fresh' (Kd.N_lt (by (with_reducible repeat (first | apply Kd.N_alloc | apply Kd.N_drewN | apply Kd.N_drew)); exact HO_5.out)) k_ hk, Kd.fresh' (Kd.R_lt (by (with_reducible repeat (first | apply Kd.R_alloc | apply Kd.R_drewN | apply Kd.R_drew)); exact HO_7.out)) k_ hk⟩))
         (case aO => exact (by (with_reducible repeat (first | apply Kd.N_alloc | apply Kd.N_drewN | apply Kd.N_drew)); exact HO_9.out))
         (case aS => exact (below_size (by repeat (first | (with_reducible first | exact HB.out | apply below_alloc | apply pw_below_drewN | apply below_drew1) | exact HB.out))))
         (case aL => have := LMc14.out; omega)
         intro v360 w20 ho hb hg hat
         rw [← Ny359.out] at ho
         have n0_ := Aside0.mk (Kd.N_afterv (ok := (fun k_ => some k_ ≠ (v353 : Value).ownBlock)) (by (with_reducible repeat (first | apply Kd.N_alloc | apply Kd.N_drewN | apply Kd.N_drew)); exact HO_5.out) hg hat)
         have n1_ := Aside0.mk (Kd.R_over' (by (with_reducible repeat (first | apply Kd.R_alloc | apply Kd.R_drewN | apply Kd.R_drew)); exact HO_7.out) (Kd.N_typed (by (with_reducible repeat (first | apply Kd.N_alloc | apply Kd.N_drewN | apply Kd.N_drew)); exact HO_9.out)) (by decide) hg)
         have n2_ := Aside0.mk (Kd.V_afterv (ok := (fun k_ => some k_ ≠ (.slice (some ad355) t347.length co10 : Value).ownBlock ∧ some k_ ≠ (v353 : Value).ownBlock)) (by (with_reducible repeat (first | apply Kd.V_alloc | apply Kd.V_drewN | apply Kd.V_drew)); exact Kd.V_mono HL355_2.out (fun _ hk => ⟨⟨hk.2, hk.1.1⟩, hk.1.2⟩)) hg hat)
         have n3_ := Aside0.mk (Kd.V_afterv (ok := (fun k_ => some k_ ≠ (.slice (some ad355) t347.length co10 : Value).ownBlock ∧ some k_ ≠ (v353 : Value).ownBlock)) (by (with_reducible repeat (first | apply Kd.V_alloc | apply Kd.V_drewN | apply Kd.V_drew)); exact Kd.V_mono HL355_3.out (fun _ hk => ⟨⟨hk.2, hk.1.1⟩, hk.1.2⟩)) hg hat)
         have n4_ := Aside0.mk (Kd.V_afterv (ok := (fun k_ => some k_ ≠ (.slice (some ad355) t347.length co10 : Value).ownBlock ∧ some k_ ≠ (v353 : Value).ownBlock)) (by (with_reducible repeat (first | apply Kd.V_alloc | apply Kd.V_drewN | apply Kd.V_drew)); exact Kd.V_mono HL356_2.out (fun _ hk => ⟨⟨hk.2, hk.1.1⟩, hk.1.2⟩)) hg hat)
         have n5_ := Aside0.mk (Kd.V_afterv (ok := (fun k_ => some k_ ≠ (.slice (some ad355) t347.length co10 : Value).ownBlock ∧ some k_ ≠ (v353 : Value).ownBlock)) (by (with_reducible repeat (first | apply Kd.V_alloc | apply Kd.V_drewN | apply Kd.V_drew)); exact Kd.V_mono HL356_3.out (fun _ hk => ⟨⟨hk.2, hk.1.1⟩, hk.1.2⟩)) hg hat)
         have n6_ := Aside0.mk (Kd.V_afterv (ok := (fun k_ => some k_ ≠ (.slice (some ad355) t347.length co10 : Value).ownBlock ∧ some k_ ≠ (v353 : Value).ownBlock)) (by (with_reducible repeat (first | apply Kd.V_alloc | apply Kd.V_drewN | apply Kd.V_drew)); exact Kd.V_mono HL357_2.out (fun _ hk => ⟨⟨hk.2, hk.1.1⟩, hk.1.2⟩)) hg hat)
         have n7_ := Aside0.mk (Kd.V_afterv (ok := (fun k_ => some k_ ≠ (.slice (some ad355) t347.length co10 : Value).ownBlock ∧ some k_ ≠ (v353 : Value).ownBlock)) (by (with_reducible repeat (first | apply Kd.V_alloc | apply Kd.V_drewN | apply Kd.V_drew)); exact Kd.V_mono HL357_3.out (fun _ hk => ⟨⟨hk.2, hk.1.1⟩, hk.1.2⟩)) hg hat)
         have n8_ := Aside0.mk (Kd.V_afterv (ok := (fun k_ => some k_ ≠ (.slice (some ad355) t347.length co10 : Value).ownBlock ∧ some k_ ≠ (v353 : Value).ownBlock)) (by (with_reducible repeat (first | apply Kd.V_alloc | apply Kd.V_drewN | apply Kd.V_drew)); exact Kd.V_mono HL358_2.out (fun _ hk => ⟨⟨hk.2, hk.1.1⟩, hk.1.2⟩)) hg hat)
         have n9_ := Aside0.mk (Kd.V_afterv (ok := (fun k_ => some k_ ≠ (.slice (some ad355) t347.length co10 : Value).ownBlock ∧ some k_ ≠ (v353 : Value).ownBlock)) (by (with_reducible repeat (first | apply Kd.V_alloc | apply Kd.V_drewN | apply Kd.V_drew)); exact Kd.V_mono HL358_3.out (fun _ hk => ⟨⟨hk.2, hk.1.1⟩, hk.1.2⟩)) hg hat)
         have n10_ := Aside0.mk (hb)
         have n11_ := Aside0.mk (ho)
         clear HO_5
         clear HO_7
         clear HL355_2
         clear HL355_3
         clear HL356_2
         clear HL356_3
         clear HL357_2
         clear HL357_3
         clear HL358_2
         clear HL358_3
         clear HB
         clear HO_9
         have HO_5 := n0_
         have HO_7 := n1_
         have HL355_2 := n2_
         have HL355_3 := n3_
         have HL356_2 := n4_
         have HL356_3 := n5_
         have HL357_2 := n6_
         have HL357_3 := n7_
         have HL358_2 := n8_
         have HL358_3 := n9_
         have HB := n10_
         have HO361 := n11_
         clear n0_ n1_ n2_ n3_ n4_ n5_ n6_ n7_ n8_ n9_ n10_ n11_
         clear ho hb hg hat
         refine hK.out _ _ ?_
         clear hK K
         refine norm_ (a' := ?_) ?_ ?_
         rotate_left
         ·show Act.put _ (some 70) _ = _
          simp only [Act.put, List.setIfInBounds_toArray, List.set_cons_zero, List.set_cons_succ, i64_w, i32_w]
          rfl
         refine pure_ (i := 24) (N := some 9) (v := ?_) (a' := ?_) (vb 33554431 25) rfl rfl (any_of HT_.out (by kernel_rfl)) (fun _ _ _ h => h) (Or.inl ⟨by rfl, ?_⟩) ?_ ?_
         rotate_left
         ·intro w'
          go_simp
          with_reducible rfl
         rotate_left
         ·simp only [Act.put, List.setIfInBounds_toArray, List.set_cons_zero, List.set_cons_succ, i64_w, i32_w]
          rfl
         refine done_ (done_of HT_.out (by kernel_rfl)) ?_
         try go_wp2
         have n0_ := Aside0.mk (Kd.N_drew HO_5.out)
         have n1_ := Aside0.mk (Kd.R_drew HO_7.out)
         have n2_ := Aside0.mk (Kd.V_drew HL355_2.out)
         have n3_ := Aside0.mk (Kd.V_drew HL355_3.out)
         have n4_ := Aside0.mk (Kd.V_drew HL356_2.out)
         have n5_ := Aside0.mk (Kd.V_drew HL356_3.out)
         have n6_ := Aside0.mk (Kd.V_drew HL357_2.out)
         have n7_ := Aside0.mk (Kd.V_drew HL357_3.out)
         have n8_ := Aside0.mk (Kd.V_drew HL358_2.out)
         have n9_ := Aside0.mk (Kd.V_drew HL358_3.out)
         have n10_ := Aside0.mk (Kd.N_drew HO361.out)
         have n11_ := Aside0.mk (below_drew1 HB.out)
         clear HO_5
         clear HO_7
         clear HL355_2
         clear HL355_3
         clear HL356_2
         clear HL356_3
         clear HL357_2
         clear HL357_3
         clear HL358_2
         clear HL358_3
         clear HO361
         clear HB
         have HO_5 := n0_
         have HO_7 := n1_
         have HL355_2 := n2_
         have HL355_3 := n3_
         have HL356_2 := n4_
         have HL356_3 := n5_
         have HL357_2 := n6_
         have HL357_3 := n7_
         have HL358_2 := n8_
         have HL358_3 := n9_
         have HO361 := n10_
         have HB := n11_
         clear n0_ n1_ n2_ n3_ n4_ n5_ n6_ n7_ n8_ n9_ n10_ n11_
         have p362 : 0 ≤ (x10_1 : Int) := of_decide_eq_true (by first | (with_reducible assumption) | assumption)
         have q362 : x10_1 < (t347.length : Int) := of_decide_eq_true (by first | (with_reducible assumption) | assumption)
         obtain ⟨ad362, A362_2, c362_2, A362_3, c362_3, e362, hx362_0, hx362_1, hx362_2, hx362_3, hl362_2, hi362_2, hl362_3, hi362_3⟩ := at_T46 (Kd.N_reads' HO_5.out).2.2 x10_1 p362 q362
         obtain rfl : ad355 = ad362 := (by injection e362)
         obtain ⟨ce362, hce362, hMe362, hcc362⟩ := Kd.N_get HO_5.out z46 x10_1 p362 (by first | exact q362 | exact of_decide_eq_true (by first | (with_reducible assumption) | assumption) | (have e_ := (Kd.N_reads' HO_5.out).1; omega))
         obtain ⟨ua362_2, uc362_2, ua362_3, uc362_3, rfl, ul362_2, ge362_2, ul362_3, ge362_3⟩ := k46_openF hMe362
         have hv362_2 := hcc362 2 _ rfl
         rw [add_field _ _ 2 (by omega)] at hv362_2
         replace hv362_2 := Option.some.inj (hv362_2.symm.trans hx362_2)
         injection hv362_2 with hva_ hvn_ hvc_
         rw [hva_] at ge362_2
         rw [hvc_] at ul362_2
         have HL362_2 := Aside0.mk (show Kd.V Kd.string 9 _ w.heap.size _ _ ((rd_T46 t347 x10_1).f2) from Kd.V_mk ul362_2 ge362_2)
         clear hva_ hvn_ hvc_ ge362_2 ul362_2
         have hv362_3 := hcc362 3 _ rfl
         rw [add_field _ _ 3 (by omega)] at hv362_3
         replace hv362_3 := Option.some.inj (hv362_3.symm.trans hx362_3)
         injection hv362_3 with hva_ hvn_ hvc_
         rw [hva_] at ge362_3
         rw [hvc_] at ul362_3
         have HL362_3 := Aside0.mk (show Kd.V Kd.string 9 _ w.heap.size _ _ ((rd_T46 t347 x10_1).f3) from Kd.V_mk ul362_3 ge362_3)
         clear hva_ hvn_ hvc_ ge362_3 ul362_3
         clear hcc362 hce362
         have HR362_2 := Aside0.mk hi362_2
         have HC362_2 := Aside0.mk hl362_2
         clear hi362_2 hl362_2
         have HR362_3 := Aside0.mk hi362_3
         have HC362_3 := Aside0.mk hl362_3
         clear hi362_3 hl362_3
         replace p362 := eq_true p362
         replace q362 := eq_true q362
         have p363 : 0 ≤ (x10_1 : Int) := of_decide_eq_true (by first | (with_reducible assumption) | assumption)
         have q363 : x10_1 < (t347.length : Int) := of_decide_eq_true (by first | (with_reducible assumption) | assumption)
         obtain ⟨ad363, A363_2, c363_2, A363_3, c363_3, e363, hx363_0, hx363_1, hx363_2, hx363_3, hl363_2, hi363_2, hl363_3, hi363_3⟩ := at_T46 (Kd.N_reads' HO_5.out).2.2 x10_1 p363 q363
         obtain rfl : ad355 = ad363 := (by injection e363)
         obtain ⟨ce363, hce363, hMe363, hcc363⟩ := Kd.N_get HO_5.out z46 x10_1 p363 (by first | exact q363 | exact of_decide_eq_true (by first | (with_reducible assumption) | assumption) | (have e_ := (Kd.N_reads' HO_5.out).1; omega))
         obtain ⟨ua363_2, uc363_2, ua363_3, uc363_3, rfl, ul363_2, ge363_2, ul363_3, ge363_3⟩ := k46_openF hMe363
         have hv363_2 := hcc363 2 _ rfl
         rw [add_field _ _ 2 (by omega)] at hv363_2
         replace hv363_2 := Option.some.inj (hv363_2.symm.trans hx363_2)
         injection hv363_2 with hva_ hvn_ hvc_
         rw [hva_] at ge363_2
         rw [hvc_] at ul363_2
         have HL363_2 := Aside0.mk (show Kd.V Kd.string 9 _ w.heap.size _ _ ((rd_T46 t347 x10_1).f2) from Kd.V_mk ul363_2 ge363_2)
         clear hva_ hvn_ hvc_ ge363_2 ul363_2
         have hv363_3 := hcc363 3 _ rfl
         rw [add_field _ _ 3 (by omega)] at hv363_3
         replace hv363_3 := Option.some.inj (hv363_3.symm.trans hx363_3)
         injection hv363_3 with hva_ hvn_ hvc_
         rw [hva_] at ge363_3
         rw [hvc_] at ul363_3
         have HL363_3 := Aside0.mk (show Kd.V Kd.string 9 _ w.heap.size _ _ ((rd_T46 t347 x10_1).f3) from Kd.V_mk ul363_3 ge363_3)
         clear hva_ hvn_ hvc_ ge363_3 ul363_3
         clear hcc363 hce363
         have HR363_2 := Aside0.mk hi363_2
         have HC363_2 := Aside0.mk hl363_2
         clear hi363_2 hl363_2
         have HR363_3 := Aside0.mk hi363_3
         have HC363_3 := Aside0.mk hl363_3
         clear hi363_3 hl363_3
         replace p363 := eq_true p363
         replace q363 := eq_true q363
         have ea_ := Option.some.inj (hx362_2.symm.trans hx363_2)
         injection ea_ with ea_ en_ ec_
         subst ea_
         subst ec_
         clear en_
         have ea_ := Option.some.inj (hx362_3.symm.trans hx363_3)
         injection ea_ with ea_ en_ ec_
         subst ea_
         subst ec_
         clear en_
         refine start_ (n := 14) (S := fun w' => w'.cell? (ad355.add ((x10_1).toNat * 4)) = some (.int .i64 ((rd_T46 t347 x10_1).f0)) ∧ w'.cell? ⟨(ad355.add ((x10_1).toNat * 4)).block, (ad355.add ((x10_1).toNat * 4)).off + 1, none⟩ = some (.int .i64 ((rd_T46 t347 x10_1).f1)) ∧ w'.cell? ⟨(ad355.add ((x10_1).toNat * 4)).block, (ad355.add ((x10_1).toNat * 4)).off + 2, none⟩ = some (.slice A362_2 ((rd_T46 t347 x10_1).f2).length c362_2) ∧ w'.cell? ⟨(ad355.add ((x10_1).toNat * 4)).block, (ad355.add ((x10_1).toNat * 4)).off + 3, none⟩ = some (.slice A362_3 ((rd_T46 t347 x10_1).f3).length c362_3) ∧ w'.cell? (ad355.add ((x10_1).toNat * 4)) = some (.int .i64 ((rd_T46 t347 x10_1).f0)) ∧ w'.cell? ⟨(ad355.add ((x10_1).toNat * 4)).block, (ad355.add ((x10_1).toNat * 4)).off + 1, none⟩ = some (.int .i64 ((rd_T46 t347 x10_1).f1)) ∧ w'.cell? ⟨(ad355.add ((x10_1).toNat * 4)).block, (ad355.add ((x10_1).toNat * 4)).off + 2, none⟩ = some (.slice A362_2 ((rd_T46 t347 x10_1).f2).length c362_2) ∧ w'.cell? ⟨(ad355.add ((x10_1).toNat * 4)).block, (ad355.add ((x10_1).toNat * 4)).off + 3, none⟩ = some (.slice A362_3 ((rd_T46 t347 x10_1).f3).length c362_3)) (ds := []) (vb 0 14) (by kernel_rfl) rfl rfl ⟨hx362_0, hx362_1, hx362_2, hx362_3, hx363_0, hx363_1, hx363_2, hx363_3⟩ (fun hHeld => ?_); refine with_tabW forebearlaw05_DiffBack.tab12 forebearlaw05_DiffBack.bits12 (fun HT_ HW_ => ?_)
         generalize w20.drew = w21 at HO_5 HO_7 HL355_2 HL355_3 HL356_2 HL356_3 HL357_2 HL357_3 HL358_2 HL358_3 HO361 HB HL362_2 HL362_3 HL363_2 HL363_3 HR362_2 HR362_3 HR363_2 HR363_3 hx362_0 hx362_1 hx362_2 hx362_3 hx363_0 hx363_1 hx363_2 hx363_3 hHeld ⊢
         refine pure_ (i := 0) (N := some 71) (v := ?_) (a' := ?_) (vb 1 14) rfl rfl (any_of HT_.out (by kernel_rfl)) (fun _ _ _ h => h) (Or.inl ⟨by rfl, ?_⟩) ?_ ?_
         rotate_left
         ·intro w'
          go_simp
          with_reducible rfl
         rotate_left
         ·simp only [Act.put, List.setIfInBounds_toArray, List.set_cons_zero, List.set_cons_succ, i64_w, i32_w]
          rfl
         refine pure_ (i := 1) (N := some 72) (v := ?_) (a' := ?_) (vb 3 14) rfl rfl (any_of HT_.out (by kernel_rfl)) (fun _ _ _ h => h) (Or.inl ⟨by rfl, ?_⟩) ?_ ?_
         rotate_left
         ·intro w'
          go_simp
          with_reducible rfl
         rotate_left
         ·simp only [Act.put, List.setIfInBounds_toArray, List.set_cons_zero, List.set_cons_succ, i64_w, i32_w]
          rfl
         refine pure_ (i := 2) (N := some 73) (v := ?_) (a' := ?_) (vb 7 14) rfl rfl (any_of HT_.out (by kernel_rfl)) (fun _ _ _ h => h) (Or.inl ⟨by rfl, ?_⟩) ?_ ?_
         rotate_left
         ·intro w'
          go_simp
          with_reducible rfl
         rotate_left
         ·simp only [Act.put, List.setIfInBounds_toArray, List.set_cons_zero, List.set_cons_succ, i64_w, i32_w]
          rfl
         refine pure_ (i := 3) (N := some 74) (v := ?_) (a' := ?_) (vb 15 14) rfl rfl (any_of HT_.out (by kernel_rfl)) (fun _ _ _ h => h) (Or.inl ⟨by rfl, ?_⟩) ?_ ?_
         rotate_left
         ·intro w'
          go_simp
          with_reducible rfl
         rotate_left
         ·simp only [Act.put, List.setIfInBounds_toArray, List.set_cons_zero, List.set_cons_succ, i64_w, i32_w]
          rfl
         refine pure_ (i := 6) (N := some 77) (v := ?_) (a' := ?_) (vb 79 14) rfl rfl (any_of HT_.out (by kernel_rfl)) (fun _ _ _ h => h) (Or.inl ⟨by rfl, ?_⟩) ?_ ?_
         rotate_left
         ·intro w'
          go_simp
          with_reducible rfl
         rotate_left
         ·simp only [Act.put, List.setIfInBounds_toArray, List.set_cons_zero, List.set_cons_succ, i64_w, i32_w]
          rfl
         refine pure_ (i := 7) (N := some 78) (v := ?_) (a' := ?_) (vb 207 14) rfl rfl (any_of HT_.out (by kernel_rfl)) (fun _ _ _ h => h) (Or.inl ⟨by rfl, ?_⟩) ?_ ?_
         rotate_left
         ·intro w'
          go_simp
          with_reducible rfl
         rotate_left
         ·simp only [Act.put, List.setIfInBounds_toArray, List.set_cons_zero, List.set_cons_succ, i64_w, i32_w]
          rfl
         refine pure_ (i := 8) (N := some 79) (v := ?_) (a' := ?_) (vb 463 14) rfl rfl (any_of HT_.out (by kernel_rfl)) (fun _ _ _ h => h) (Or.inl ⟨by rfl, ?_⟩) ?_ ?_
         rotate_left
         ·intro w'
          go_simp
          with_reducible rfl
         rotate_left
         ·simp only [Act.put, List.setIfInBounds_toArray, List.set_cons_zero, List.set_cons_succ, i64_w, i32_w]
          rfl
         refine pure_ (i := 9) (N := some 80) (v := ?_) (a' := ?_) (vb 975 14) rfl rfl (any_of HT_.out (by kernel_rfl)) (fun _ _ _ h => h) (Or.inl ⟨by rfl, ?_⟩) ?_ ?_
         rotate_left
         ·intro w'
          go_simp
          with_reducible rfl
         rotate_left
         ·simp only [Act.put, List.setIfInBounds_toArray, List.set_cons_zero, List.set_cons_succ, i64_w, i32_w]
          rfl
         refine take_ (i := 4) (N := some 75) (v := ?_) (a' := ?_) (vb 991 14) rfl rfl (take_ofW HT_.out HW_.out (by kernel_rfl)) (fun _ _ _ h => h) (Or.inl ⟨by rfl, ?_⟩) hHeld ?_ ?_
         rotate_left
         ·rintro w' ⟨s0, s1, s2, s3, s4, s5, s6, s7⟩
          go_simp
          with_reducible rfl
         rotate_left
         ·simp only [Act.put, List.setIfInBounds_toArray, List.set_cons_zero, List.set_cons_succ, i64_w, i32_w]
          rfl
         refine pure_ (i := 5) (N := some 76) (v := ?_) (a' := ?_) (vb 1023 14) rfl rfl (any_of HT_.out (by kernel_rfl)) (fun _ _ _ h => h) (Or.inl ⟨by rfl, ?_⟩) ?_ ?_
         rotate_left
         ·intro w'
          go_simp
          with_reducible rfl
         rotate_left
         ·simp only [Act.put, List.setIfInBounds_toArray, List.set_cons_zero, List.set_cons_succ, i64_w, i32_w]
          rfl
         refine take_ (i := 10) (N := some 81) (v := ?_) (a' := ?_) (vb 2047 14) rfl rfl (take_ofW HT_.out HW_.out (by kernel_rfl)) (fun _ _ _ h => h) (Or.inl ⟨by rfl, ?_⟩) hHeld ?_ ?_
         rotate_left
         ·rintro w' ⟨s0, s1, s2, s3, s4, s5, s6, s7⟩
          go_simp
          with_reducible rfl
         rotate_left
         ·simp only [Act.put, List.setIfInBounds_toArray, List.set_cons_zero, List.set_cons_succ, i64_w, i32_w]
          rfl
         refine pure_ (i := 11) (N := some 82) (v := ?_) (a' := ?_) (vb 4095 14) rfl rfl (any_of HT_.out (by kernel_rfl)) (fun _ _ _ h => h) (Or.inl ⟨by rfl, ?_⟩) ?_ ?_
         rotate_left
         ·intro w'
          go_simp
          with_reducible rfl
         rotate_left
         ·simp only [Act.put, List.setIfInBounds_toArray, List.set_cons_zero, List.set_cons_succ, i64_w, i32_w]
          rfl
         refine pure_ (i := 12) (N := some 83) (v := ?_) (a' := ?_) (vb 8191 14) rfl rfl (any_of HT_.out (by kernel_rfl)) (fun _ _ _ h => h) (Or.inl ⟨by rfl, ?_⟩) ?_ ?_
         rotate_left
         ·intro w'
          go_simp
          with_reducible rfl
         rotate_left
         ·simp only [Act.put, List.setIfInBounds_toArray, List.set_cons_zero, List.set_cons_succ, i64_w, i32_w]
          rfl
         refine pure_ (i := 13) (N := some 84) (v := ?_) (a' := ?_) (vb 16383 14) rfl rfl (any_of HT_.out (by kernel_rfl)) (fun _ _ _ h => h) (Or.inl ⟨by rfl, ?_⟩) ?_ ?_
         rotate_left
         ·intro w'
          go_simp
          with_reducible rfl
         rotate_left
         ·simp only [Act.put, List.setIfInBounds_toArray, List.set_cons_zero, List.set_cons_succ, i64_w, i32_w]
          rfl
         refine done_ (done_of HT_.out (by kernel_rfl)) ?_
         try go_wp2
         go_roundg k1
         case measure => have := HK1.out; omega
         case rel => exact ⟨(y359), (wrap64 (x10_1 + 1)), (by first | rfl | (simp; done) | (simp [*]; done)), H', ⟨by have := HK1.out; omega⟩, ⟨by (with_reducible repeat (first | apply Kd.N_alloc | apply Kd.N_drewN | apply Kd.N_drew)); exact HO_5.out⟩, ⟨by (with_reducible repeat (first | apply Kd.R_alloc | apply Kd.R_drewN | apply Kd.R_drew)); exact HO_7.out⟩, ⟨by (with_reducible repeat (first | apply Kd.N_alloc | apply Kd.N_drewN | apply Kd.N_drew)); exact HO361.out⟩, ⟨by repeat (first | (with_reducible first | exact HB.out | apply below_alloc | apply pw_below_drewN | apply below_drew1) | exact HB.out)⟩⟩
       ·rw [if_neg c14] at H
        exact absurd H (by simp)
      ·rw [if_neg c13] at H
       exact absurd H (by simp)
     ·rw [if_neg c12] at H
      have c12b0 : decide (x10_1 < (t347.length : Int)) = false := decide_eq_false c12
      clear c12
      replace H := Option.bind_eq_some_iff.mp H
      obtain ⟨⟨t364, t365⟩, A220, H⟩ := H
      replace H : (if t352 = 0 then (if t365 = 0 then ((forebearref03_Same.f k1 t351 l1).bind fun t368 => (if t368 = true then ((forebearref03_Same.f k1 t364 l0).bind fun t369 => (some t369)) else (some false))) else (some false)) else (some false)) = some r := H
      have A22 := Aside0.mk A220
      clear A220
      by_cases c23 : t352 = 0
      ·rw [if_pos c23] at H
       have c23b0 : (t352 == 0) = true := beq_iff_eq.mpr c23
       have c23b1 : (t352 != 0) = false := bne_eq_false_iff_eq.mpr c23
       clear c23
       by_cases c24 : t365 = 0
       ·rw [if_pos c24] at H
        have c24b0 : (t365 == 0) = true := beq_iff_eq.mpr c24
        have c24b1 : (t365 != 0) = false := bne_eq_false_iff_eq.mpr c24
        clear c24
        replace H := Option.bind_eq_some_iff.mp H
        obtain ⟨t368, A250, H⟩ := H
        replace H : (if t368 = true then ((forebearref03_Same.f k1 t364 l0).bind fun t369 => (some t369)) else (some false)) = some r := H
        have A25 := Aside0.mk A250
        clear A250
        by_cases c26 : t368 = true
        ·subst c26
         have H1 : ((forebearref03_Same.f k1 t364 l0).bind fun t369 => (some t369)) = some r := by rw [if_pos rfl] at H; exact H
         clear H
         have H := H1
         clear H1
         replace H := Option.bind_eq_some_iff.mp H
         obtain ⟨t369, A270, H⟩ := H
         replace H : (some t369) = some r := H
         have A27 := Aside0.mk A270
         clear A270
         obtain rfl := Option.some.inj H
         obtain ⟨Ao28, co28, eo28⟩ := Kd.N_slice HO_9.out
         subst eo28
         go_wp2_with (first | ((with_reducible refine gate_callee (f := 18) rfl ?_); refine goesL_ (some 88) rfl rfl Try.func18 (by kernel_rfl) rfl #[.slice A1 l1.length c1, .slice Ao28 x9_1.length co28] rfl (by (try simp only [List.map_toArray, List.map_cons, List.map_nil]); first | done | rfl | (simp only [List.length_drop, List.length_take]; rfl)) ?_; (with_reducible refine (diff_Apply.calls k1 _ _ l1 _ _ x9_1 t364 t365 _ ?side1 ?side2 ?side3 ?side4 A22.out).mono ?_); (case side1 => repeat (first | exact (Kd.C_below HR1.out HB.out) | (with_reducible refine Kd.C_alloc ?_ _) | (with_reducible refine Kd.C_drewN ?_ _) | (with_reducible refine Kd.C_drew ?_))); (case side2 => exact HC1.out); (case side3 => repeat (first | exact (Kd.N_reads' HO_9.out).2.2 | (with_reducible refine Kd.C_alloc ?_ _) | (with_reducible refine Kd.C_drewN ?_ _) | (with_reducible refine Kd.C_drew ?_))); (case side4 => exact (Kd.N_reads' HO_9.out).2.1); rintro e w29 ⟨v366, rfl, ho0, hb⟩; refine ⟨_, rfl, ?_⟩; have n0_ := Aside0.mk (Kd.N_elder' (by (with_reducible repeat (first | apply Kd.N_alloc | apply Kd.N_drewN | apply Kd.N_drew)); exact HO_5.out) (Kd.R_base ho0) hb); have n1_ := Aside0.mk (Kd.R_elder' (by (with_reducible repeat (first | apply Kd.R_alloc | apply Kd.R_drewN | apply Kd.R_drew)); exact HO_7.out) (Kd.R_base ho0) hb); have n2_ := Aside0.mk (Kd.N_elder' (by (with_reducible repeat (first | apply Kd.N_alloc | apply Kd.N_drewN | apply Kd.N_drew)); exact HO_9.out) (Kd.R_base ho0) hb); have n3_ := Aside0.mk (Kd.R_lower (Kd.R_new' ho0 (Kd.R_lt (by (with_reducible repeat (first | apply Kd.R_alloc | apply Kd.R_drewN | apply Kd.R_drew)); exact HO_7.out))) (below_size (by repeat (first | (with_reducible first | exact HB.out | apply below_alloc | apply pw_below_drewN | apply below_drew1) | exact HB.out)))); have n4_ := Aside0.mk (below_step (by repeat (first | (with_reducible first | exact HB.out | apply below_alloc | apply pw_below_drewN | apply below_drew1) | exact HB.out)) hb); clear HO_5; clear HO_7; clear HO_9; clear HB; have HO_5 := n0_; have HO_7 := n1_; have HO_9 := n2_; have HO367 := n3_; have HB := n4_; clear n0_ n1_ n2_ n3_ n4_; (try clear hb); (try clear hb2); (try clear hk); (try clear hi); (try clear ho0); obtain ⟨Ao30, co30, eo30⟩ := Kd.R_slice HO_7.out; subst eo30) | (go_at_call 19; (with_reducible refine (forebearref03_Same.calls k1 _ _ t351 _ _ l1 true _ ?side1 ?side2 ?side3 ?side4 A25.out).mono ?_); (case side1 => repeat (first | exact (Kd.R_reads' HO_7.out).2.2 | (with_reducible refine Kd.C_alloc ?_ _) | (with_reducible refine Kd.C_drewN ?_ _) | (with_reducible refine Kd.C_drew ?_))); (case side2 => exact (Kd.R_reads' HO_7.out).2.1); (case side3 => repeat (first | exact (Kd.C_below HR1.out HB.out) | (with_reducible refine Kd.C_alloc ?_ _) | (with_reducible refine Kd.C_drewN ?_ _) | (with_reducible refine Kd.C_drew ?_))); (case side4 => exact HC1.out); rintro e w' ⟨rfl, ⟨nd, rfl⟩⟩; obtain ⟨Ao31, co31, eo31⟩ := Kd.R_slice HO367.out; subst eo31) | (go_at_call 19; (with_reducible refine (forebearref03_Same.calls k1 _ _ t364 _ _ l0 t369 _ ?side1 ?side2 ?side3 ?side4 A27.out).mono ?_); (case side1 => repeat (first | exact (Kd.R_reads' HO367.out).2.2 | (with_reducible refine Kd.C_alloc ?_ _) | (with_reducible refine Kd.C_drewN ?_ _) | (with_reducible refine Kd.C_drew ?_))); (case side2 => exact (Kd.R_reads' HO367.out).2.1); (case side3 => repeat (first | exact (Kd.C_below HR0.out (by repeat (first | (with_reducible first | exact HB.out | apply below_alloc | apply pw_below_drewN | apply below_drew1) | exact HB.out))) | (with_reducible refine Kd.C_alloc ?_ _) | (with_reducible refine Kd.C_drewN ?_ _) | (with_reducible refine Kd.C_drew ?_))); (case side4 => exact HC0.out); rintro e w' ⟨rfl, ⟨nd, rfl⟩⟩))
         go_ret
         exact ⟨by first | rfl | (simp [errW_none, errW_some] <;> rfl) | (simp [*, errW_none, errW_some] <;> rfl), by repeat (first | (with_reducible first | exact HB.out | apply below_alloc | apply pw_below_drewN | apply below_drew1) | exact HB.out)⟩
        ·replace c26 := Bool.eq_false_iff.mpr c26
         subst c26
         have H1 : (some false) = some r := by rw [if_neg (show ¬ (false = true) by decide)] at H; exact H
         clear H
         have H := H1
         clear H1
         obtain rfl := Option.some.inj H
         obtain ⟨Ao32, co32, eo32⟩ := Kd.N_slice HO_9.out
         subst eo32
         go_wp2_with (first | ((with_reducible refine gate_callee (f := 18) rfl ?_); refine goesL_ (some 88) rfl rfl Try.func18 (by kernel_rfl) rfl #[.slice A1 l1.length c1, .slice Ao32 x9_1.length co32] rfl (by (try simp only [List.map_toArray, List.map_cons, List.map_nil]); first | done | rfl | (simp only [List.length_drop, List.length_take]; rfl)) ?_; (with_reducible refine (diff_Apply.calls k1 _ _ l1 _ _ x9_1 t364 t365 _ ?side1 ?side2 ?side3 ?side4 A22.out).mono ?_); (case side1 => repeat (first | exact (Kd.C_below HR1.out HB.out) | (with_reducible refine Kd.C_alloc ?_ _) | (with_reducible refine Kd.C_drewN ?_ _) | (with_reducible refine Kd.C_drew ?_))); (case side2 => exact HC1.out); (case side3 => repeat (first | exact (Kd.N_reads' HO_9.out).2.2 | (with_reducible refine Kd.C_alloc ?_ _) | (with_reducible refine Kd.C_drewN ?_ _) | (with_reducible refine Kd.C_drew ?_))); (case side4 => exact (Kd.N_reads' HO_9.out).2.1); rintro e w33 ⟨v366, rfl, ho0, hb⟩; refine ⟨_, rfl, ?_⟩; have n0_ := Aside0.mk (Kd.N_elder' (by (with_reducible repeat (first | apply Kd.N_alloc | apply Kd.N_drewN | apply Kd.N_drew)); exact HO_5.out) (Kd.R_base ho0) hb); have n1_ := Aside0.mk (Kd.R_elder' (by (with_reducible repeat (first | apply Kd.R_alloc | apply Kd.R_drewN | apply Kd.R_drew)); exact HO_7.out) (Kd.R_base ho0) hb); have n2_ := Aside0.mk (Kd.N_elder' (by (with_reducible repeat (first | apply Kd.N_alloc | apply Kd.N_drewN | apply Kd.N_drew)); exact HO_9.out) (Kd.R_base ho0) hb); have n3_ := Aside0.mk (Kd.R_lower (Kd.R_new' ho0 (Kd.R_lt (by (with_reducible repeat (first | apply Kd.R_alloc | apply Kd.R_drewN | apply Kd.R_drew)); exact HO_7.out))) (below_size (by repeat (first | (with_reducible first | exact HB.out | apply below_alloc | apply pw_below_drewN | apply below_drew1) | exact HB.out)))); have n4_ := Aside0.mk (below_step (by repeat (first | (with_reducible first | exact HB.out | apply below_alloc | apply pw_below_drewN | apply below_drew1) | exact HB.out)) hb); clear HO_5; clear HO_7; clear HO_9; clear HB; have HO_5 := n0_; have HO_7 := n1_; have HO_9 := n2_; have HO367 := n3_; have HB := n4_; clear n0_ n1_ n2_ n3_ n4_; (try clear hb); (try clear hb2); (try clear hk); (try clear hi); (try clear ho0); obtain ⟨Ao34, co34, eo34⟩ := Kd.R_slice HO_7.out; subst eo34) | (go_at_call 19; (with_reducible refine (forebearref03_Same.calls k1 _ _ t351 _ _ l1 false _ ?side1 ?side2 ?side3 ?side4 A25.out).mono ?_); (case side1 => repeat (first | exact (Kd.R_reads' HO_7.out).2.2 | (with_reducible refine Kd.C_alloc ?_ _) | (with_reducible refine Kd.C_drewN ?_ _) | (with_reducible refine Kd.C_drew ?_))); (case side2 => exact (Kd.R_reads' HO_7.out).2.1); (case side3 => repeat (first | exact (Kd.C_below HR1.out HB.out) | (with_reducible refine Kd.C_alloc ?_ _) | (with_reducible refine Kd.C_drewN ?_ _) | (with_reducible refine Kd.C_drew ?_))); (case side4 => exact HC1.out); rintro e w' ⟨rfl, ⟨nd, rfl⟩⟩))
         go_ret
         exact ⟨by first | rfl | (simp [errW_none, errW_some] <;> rfl) | (simp [*, errW_none, errW_some] <;> rfl), by repeat (first | (with_reducible first | exact HB.out | apply below_alloc | apply pw_below_drewN | apply below_drew1) | exact HB.out)⟩
       ·rw [if_neg c24] at H
        have c24b0 : (t365 == 0) = false := beq_eq_false_iff_ne.mpr c24
        have c24b1 : (t365 != 0) = true := bne_iff_ne.mpr c24
        obtain rfl := Option.some.inj H
        obtain ⟨Ao35, co35, eo35⟩ := Kd.N_slice HO_9.out
        subst eo35
        go_wp2_with (first | ((with_reducible refine gate_callee (f := 18) rfl ?_); refine goesL_ (some 88) rfl rfl Try.func18 (by kernel_rfl) rfl #[.slice A1 l1.length c1, .slice Ao35 x9_1.length co35] rfl (by (try simp only [List.map_toArray, List.map_cons, List.map_nil]); first | done | rfl | (simp only [List.length_drop, List.length_take]; rfl)) ?_; (with_reducible refine (diff_Apply.calls k1 _ _ l1 _ _ x9_1 t364 t365 _ ?side1 ?side2 ?side3 ?side4 A22.out).mono ?_); (case side1 => repeat (first | exact (Kd.C_below HR1.out HB.out) | (with_reducible refine Kd.C_alloc ?_ _) | (with_reducible refine Kd.C_drewN ?_ _) | (with_reducible refine Kd.C_drew ?_))); (case side2 => exact HC1.out); (case side3 => repeat (first | exact (Kd.N_reads' HO_9.out).2.2 | (with_reducible refine Kd.C_alloc ?_ _) | (with_reducible refine Kd.C_drewN ?_ _) | (with_reducible refine Kd.C_drew ?_))); (case side4 => exact (Kd.N_reads' HO_9.out).2.1); rintro e w36 ⟨v366, rfl, ho0, hb⟩; refine ⟨_, rfl, ?_⟩; have n0_ := Aside0.mk (Kd.N_elder' (by (with_reducible repeat (first | apply Kd.N_alloc | apply Kd.N_drewN | apply Kd.N_drew)); exact HO_5.out) (Kd.R_base ho0) hb); have n1_ := Aside0.mk (Kd.R_elder' (by (with_reducible repeat (first | apply Kd.R_alloc | apply Kd.R_drewN | apply Kd.R_drew)); exact HO_7.out) (Kd.R_base ho0) hb); have n2_ := Aside0.mk (Kd.N_elder' (by (with_reducible repeat (first | apply Kd.N_alloc | apply Kd.N_drewN | apply Kd.N_drew)); exact HO_9.out) (Kd.R_base ho0) hb); have n3_ := Aside0.mk (Kd.R_lower (Kd.R_new' ho0 (Kd.R_lt (by (with_reducible repeat (first | apply Kd.R_alloc | apply Kd.R_drewN | apply Kd.R_drew)); exact HO_7.out))) (below_size (by repeat (first | (with_reducible first | exact HB.out | apply below_alloc | apply pw_below_drewN | apply below_drew1) | exact HB.out)))); have n4_ := Aside0.mk (below_step (by repeat (first | (with_reducible first | exact HB.out | apply below_alloc | apply pw_below_drewN | apply below_drew1) | exact HB.out)) hb); clear HO_5; clear HO_7; clear HO_9; clear HB; have HO_5 := n0_; have HO_7 := n1_; have HO_9 := n2_; have HO367 := n3_; have HB := n4_; clear n0_ n1_ n2_ n3_ n4_; (try clear hb); (try clear hb2); (try clear hk); (try clear hi); (try clear ho0)))
        go_ret
        exact ⟨by first | rfl | (simp [errW_none, errW_some] <;> rfl) | (simp [*, errW_none, errW_some] <;> rfl), by repeat (first | (with_reducible first | exact HB.out | apply below_alloc | apply pw_below_drewN | apply below_drew1) | exact HB.out)⟩
      ·rw [if_neg c23] at H
       have c23b0 : (t352 == 0) = false := beq_eq_false_iff_ne.mpr c23
       have c23b1 : (t352 != 0) = true := bne_iff_ne.mpr c23
       obtain rfl := Option.some.inj H
       obtain ⟨Ao37, co37, eo37⟩ := Kd.N_slice HO_9.out
       subst eo37
       go_wp2_with (first | ((with_reducible refine gate_callee (f := 18) rfl ?_); refine goesL_ (some 88) rfl rfl Try.func18 (by kernel_rfl) rfl #[.slice A1 l1.length c1, .slice Ao37 x9_1.length co37] rfl (by (try simp only [List.map_toArray, List.map_cons, List.map_nil]); first | done | rfl | (simp only [List.length_drop, List.length_take]; rfl)) ?_; (with_reducible refine (diff_Apply.calls k1 _ _ l1 _ _ x9_1 t364 t365 _ ?side1 ?side2 ?side3 ?side4 A22.out).mono ?_); (case side1 => repeat (first | exact (Kd.C_below HR1.out HB.out) | (with_reducible refine Kd.C_alloc ?_ _) | (with_reducible refine Kd.C_drewN ?_ _) | (with_reducible refine Kd.C_drew ?_))); (case side2 => exact HC1.out); (case side3 => repeat (first | exact (Kd.N_reads' HO_9.out).2.2 | (with_reducible refine Kd.C_alloc ?_ _) | (with_reducible refine Kd.C_drewN ?_ _) | (with_reducible refine Kd.C_drew ?_))); (case side4 => exact (Kd.N_reads' HO_9.out).2.1); rintro e w38 ⟨v366, rfl, ho0, hb⟩; refine ⟨_, rfl, ?_⟩; have n0_ := Aside0.mk (Kd.N_elder' (by (with_reducible repeat (first | apply Kd.N_alloc | apply Kd.N_drewN | apply Kd.N_drew)); exact HO_5.out) (Kd.R_base ho0) hb); have n1_ := Aside0.mk (Kd.R_elder' (by (with_reducible repeat (first | apply Kd.R_alloc | apply Kd.R_drewN | apply Kd.R_drew)); exact HO_7.out) (Kd.R_base ho0) hb); have n2_ := Aside0.mk (Kd.N_elder' (by (with_reducible repeat (first | apply Kd.N_alloc | apply Kd.N_drewN | apply Kd.N_drew)); exact HO_9.out) (Kd.R_base ho0) hb); have n3_ := Aside0.mk (Kd.R_lower (Kd.R_new' ho0 (Kd.R_lt (by (with_reducible repeat (first | apply Kd.R_alloc | apply Kd.R_drewN | apply Kd.R_drew)); exact HO_7.out))) (below_size (by repeat (first | (with_reducible first | exact HB.out | apply below_alloc | apply pw_below_drewN | apply below_drew1) | exact HB.out)))); have n4_ := Aside0.mk (below_step (by repeat (first | (with_reducible first | exact HB.out | apply below_alloc | apply pw_below_drewN | apply below_drew1) | exact HB.out)) hb); clear HO_5; clear HO_7; clear HO_9; clear HB; have HO_5 := n0_; have HO_7 := n1_; have HO_9 := n2_; have HO367 := n3_; have HB := n4_; clear n0_ n1_ n2_ n3_ n4_; (try clear hb); (try clear hb2); (try clear hk); (try clear hi); (try clear ho0)))
       go_ret
       exact ⟨by first | rfl | (simp [errW_none, errW_some] <;> rfl) | (simp [*, errW_none, errW_some] <;> rfl), by repeat (first | (with_reducible first | exact HB.out | apply below_alloc | apply pw_below_drewN | apply below_drew1) | exact HB.out)⟩
  ·rw [if_neg c6] at H
   have c6b0 : (t348 == 0) = false := beq_eq_false_iff_ne.mpr c6
   have c6b1 : (t348 != 0) = true := bne_iff_ne.mpr c6
   by_cases c39 : t348 = 4
   ·rw [if_pos c39] at H
    have c39b0 : (t348 == 4) = true := beq_iff_eq.mpr c39
    have c39b1 : (t348 != 4) = false := bne_eq_false_iff_eq.mpr c39
    clear c39
    by_cases c40 : (l0.length : Int) > 256
    ·rw [if_pos c40] at H
     have c40b0 : decide (256 < (l0.length : Int)) = true := decide_eq_true c40
     have c40b1 : decide (256 < l0.length) = true := decide_eq_true (by omega)
     clear c40
     obtain rfl := Option.some.inj H
     go_enter Try.func5, Try.ntmps5
     go_wp2_with (first | ((with_reducible refine gate_callee (f := 12) rfl ?_); refine goesL_ (some 13) rfl rfl Try.func12 (by kernel_rfl) rfl #[] rfl (by (try simp only [List.map_toArray, List.map_cons, List.map_nil]); first | done | rfl | (simp only [List.length_drop, List.length_take]; rfl)) ?_; (with_reducible refine (forebearlaw05_awake.calls k  true _ A3.out).mono ?_); rintro e w41 ⟨rfl, hb⟩; refine ⟨_, rfl, ?_⟩; have n0_ := Aside0.mk (below_step (by repeat (first | (with_reducible first | exact HB.out | apply below_alloc | apply pw_below_drewN | apply below_drew1) | exact HB.out)) hb); clear HB; have HB := n0_; clear n0_; (try clear hb); (try clear hb2); (try clear hk); (try clear hi)) | ((with_reducible refine gate_callee (f := 15) rfl ?_); refine goesL_ (some 18) rfl rfl Try.func15 (by kernel_rfl) rfl #[.slice A0 l0.length c0, .slice A1 l1.length c1] rfl (by (try simp only [List.map_toArray, List.map_cons, List.map_nil]); first | done | rfl | (simp only [List.length_drop, List.length_take]; rfl)) ?_; (with_reducible refine (diff_Hunks.calls k _ _ l0 _ _ l1 t347 t348 _ ?side1 ?side2 ?side3 ?side4 A5.out).mono ?_); (case side1 => repeat (first | exact (Kd.C_below HR0.out HB.out) | (with_reducible refine Kd.C_alloc ?_ _) | (with_reducible refine Kd.C_drewN ?_ _) | (with_reducible refine Kd.C_drew ?_))); (case side2 => exact HC0.out); (case side3 => repeat (first | exact (Kd.C_below HR1.out HB.out) | (with_reducible refine Kd.C_alloc ?_ _) | (with_reducible refine Kd.C_drewN ?_ _) | (with_reducible refine Kd.C_drew ?_))); (case side4 => exact HC1.out); rintro e w42 ⟨v349, rfl, ho0, hb⟩; refine ⟨_, rfl, ?_⟩; have n0_ := Aside0.mk (Kd.N_lower (Kd.N_mono (ok' := fun k_ => True) (Kd.S_N (Kd.S_bound ho0)) (fun k_ hk_ => trivial)) (below_size (by repeat (first | (with_reducible first | exact HB.out | apply below_alloc | apply pw_below_drewN | apply below_drew1) | exact HB.out)))); have n1_ := Aside0.mk (below_step (by repeat (first | (with_reducible first | exact HB.out | apply below_alloc | apply pw_below_drewN | apply below_drew1) | exact HB.out)) hb); clear HB; have HO350 := n0_; have HB := n1_; clear n0_ n1_; (try clear hb); (try clear hb2); (try clear hk); (try clear hi); (try clear ho0)))
     go_ret
     exact ⟨by first | rfl | (simp [errW_none, errW_some] <;> rfl) | (simp [*, errW_none, errW_some] <;> rfl), by repeat (first | (with_reducible first | exact HB.out | apply below_alloc | apply pw_below_drewN | apply below_drew1) | exact HB.out)⟩
    ·rw [if_neg c40] at H
     have c40b0 : decide (256 < (l0.length : Int)) = false := decide_eq_false c40
     have c40b1 : decide (256 < l0.length) = false := decide_eq_false (by omega)
     clear c40
     obtain rfl := Option.some.inj H
     go_enter Try.func5, Try.ntmps5
     go_wp2_with (first | ((with_reducible refine gate_callee (f := 12) rfl ?_); refine goesL_ (some 13) rfl rfl Try.func12 (by kernel_rfl) rfl #[] rfl (by (try simp only [List.map_toArray, List.map_cons, List.map_nil]); first | done | rfl | (simp only [List.length_drop, List.length_take]; rfl)) ?_; (with_reducible refine (forebearlaw05_awake.calls k  true _ A3.out).mono ?_); rintro e w43 ⟨rfl, hb⟩; refine ⟨_, rfl, ?_⟩; have n0_ := Aside0.mk (below_step (by repeat (first | (with_reducible first | exact HB.out | apply below_alloc | apply pw_below_drewN | apply below_drew1) | exact HB.out)) hb); clear HB; have HB := n0_; clear n0_; (try clear hb); (try clear hb2); (try clear hk); (try clear hi)) | ((with_reducible refine gate_callee (f := 15) rfl ?_); refine goesL_ (some 18) rfl rfl Try.func15 (by kernel_rfl) rfl #[.slice A0 l0.length c0, .slice A1 l1.length c1] rfl (by (try simp only [List.map_toArray, List.map_cons, List.map_nil]); first | done | rfl | (simp only [List.length_drop, List.length_take]; rfl)) ?_; (with_reducible refine (diff_Hunks.calls k _ _ l0 _ _ l1 t347 t348 _ ?side1 ?side2 ?side3 ?side4 A5.out).mono ?_); (case side1 => repeat (first | exact (Kd.C_below HR0.out HB.out) | (with_reducible refine Kd.C_alloc ?_ _) | (with_reducible refine Kd.C_drewN ?_ _) | (with_reducible refine Kd.C_drew ?_))); (case side2 => exact HC0.out); (case side3 => repeat (first | exact (Kd.C_below HR1.out HB.out) | (with_reducible refine Kd.C_alloc ?_ _) | (with_reducible refine Kd.C_drewN ?_ _) | (with_reducible refine Kd.C_drew ?_))); (case side4 => exact HC1.out); rintro e w44 ⟨v349, rfl, ho0, hb⟩; refine ⟨_, rfl, ?_⟩; have n0_ := Aside0.mk (Kd.N_lower (Kd.N_mono (ok' := fun k_ => True) (Kd.S_N (Kd.S_bound ho0)) (fun k_ hk_ => trivial)) (below_size (by repeat (first | (with_reducible first | exact HB.out | apply below_alloc | apply pw_below_drewN | apply below_drew1) | exact HB.out)))); have n1_ := Aside0.mk (below_step (by repeat (first | (with_reducible first | exact HB.out | apply below_alloc | apply pw_below_drewN | apply below_drew1) | exact HB.out)) hb); clear HB; have HO350 := n0_; have HB := n1_; clear n0_ n1_; (try clear hb); (try clear hb2); (try clear hk); (try clear hi); (try clear ho0)))
     go_ret
     exact ⟨by first | rfl | (simp [errW_none, errW_some] <;> rfl) | (simp [*, errW_none, errW_some] <;> rfl), by repeat (first | (with_reducible first | exact HB.out | apply below_alloc | apply pw_below_drewN | apply below_drew1) | exact HB.out)⟩
   ·rw [if_neg c39] at H
    have c39b0 : (t348 == 4) = false := beq_eq_false_iff_ne.mpr c39
    have c39b1 : (t348 != 4) = true := bne_iff_ne.mpr c39
    obtain rfl := Option.some.inj H
    go_enter Try.func5, Try.ntmps5
    go_wp2_with (first | ((with_reducible refine gate_callee (f := 12) rfl ?_); refine goesL_ (some 13) rfl rfl Try.func12 (by kernel_rfl) rfl #[] rfl (by (try simp only [List.map_toArray, List.map_cons, List.map_nil]); first | done | rfl | (simp only [List.length_drop, List.length_take]; rfl)) ?_; (with_reducible refine (forebearlaw05_awake.calls k  true _ A3.out).mono ?_); rintro e w45 ⟨rfl, hb⟩; refine ⟨_, rfl, ?_⟩; have n0_ := Aside0.mk (below_step (by repeat (first | (with_reducible first | exact HB.out | apply below_alloc | apply pw_below_drewN | apply below_drew1) | exact HB.out)) hb); clear HB; have HB := n0_; clear n0_; (try clear hb); (try clear hb2); (try clear hk); (try clear hi)) | ((with_reducible refine gate_callee (f := 15) rfl ?_); refine goesL_ (some 18) rfl rfl Try.func15 (by kernel_rfl) rfl #[.slice A0 l0.length c0, .slice A1 l1.length c1] rfl (by (try simp only [List.map_toArray, List.map_cons, List.map_nil]); first | done | rfl | (simp only [List.length_drop, List.length_take]; rfl)) ?_; (with_reducible refine (diff_Hunks.calls k _ _ l0 _ _ l1 t347 t348 _ ?side1 ?side2 ?side3 ?side4 A5.out).mono ?_); (case side1 => repeat (first | exact (Kd.C_below HR0.out HB.out) | (with_reducible refine Kd.C_alloc ?_ _) | (with_reducible refine Kd.C_drewN ?_ _) | (with_reducible refine Kd.C_drew ?_))); (case side2 => exact HC0.out); (case side3 => repeat (first | exact (Kd.C_below HR1.out HB.out) | (with_reducible refine Kd.C_alloc ?_ _) | (with_reducible refine Kd.C_drewN ?_ _) | (with_reducible refine Kd.C_drew ?_))); (case side4 => exact HC1.out); rintro e w46 ⟨v349, rfl, ho0, hb⟩; refine ⟨_, rfl, ?_⟩; have n0_ := Aside0.mk (Kd.N_lower (Kd.N_mono (ok' := fun k_ => True) (Kd.S_N (Kd.S_bound ho0)) (fun k_ hk_ => trivial)) (below_size (by repeat (first | (with_reducible first | exact HB.out | apply below_alloc | apply pw_below_drewN | apply below_drew1) | exact HB.out)))); have n1_ := Aside0.mk (below_step (by repeat (first | (with_reducible first | exact HB.out | apply below_alloc | apply pw_below_drewN | apply below_drew1) | exact HB.out)) hb); clear HB; have HO350 := n0_; have HB := n1_; clear n0_ n1_; (try clear hb); (try clear hb2); (try clear hk); (try clear hi); (try clear ho0)))
    go_ret
    exact ⟨by first | rfl | (simp [errW_none, errW_some] <;> rfl) | (simp [*, errW_none, errW_some] <;> rfl), by repeat (first | (with_reducible first | exact HB.out | apply below_alloc | apply pw_below_drewN | apply below_drew1) | exact HB.out)⟩
 ·replace c4 := Bool.eq_false_iff.mpr c4
  subst c4
  have H1 : (some false) = some r := by rw [if_neg (show ¬ (false = true) by decide)] at H; exact H
  clear H
  have H := H1
  clear H1
  obtain rfl := Option.some.inj H
  go_enter Try.func5, Try.ntmps5
  go_wp2_with (first | ((with_reducible refine gate_callee (f := 12) rfl ?_); refine goesL_ (some 13) rfl rfl Try.func12 (by kernel_rfl) rfl #[] rfl (by (try simp only [List.map_toArray, List.map_cons, List.map_nil]); first | done | rfl | (simp only [List.length_drop, List.length_take]; rfl)) ?_; (with_reducible refine (forebearlaw05_awake.calls k  false _ A3.out).mono ?_); rintro e w47 ⟨rfl, hb⟩; refine ⟨_, rfl, ?_⟩; have n0_ := Aside0.mk (below_step (by repeat (first | (with_reducible first | exact HB.out | apply below_alloc | apply pw_below_drewN | apply below_drew1) | exact HB.out)) hb); clear HB; have HB := n0_; clear n0_; (try clear hb); (try clear hb2); (try clear hk); (try clear hi)))
  go_ret
  exact ⟨by first | rfl | (simp [errW_none, errW_some] <;> rfl) | (simp [*, errW_none, errW_some] <;> rfl), by repeat (first | (with_reducible first | exact HB.out | apply below_alloc | apply pw_below_drewN | apply below_drew1) | exact HB.out)⟩

/-- THE ONE PURE STATEMENT of forebearlaw05_DiffBack. -/
def forebearlaw05_DiffBack.Pure : Prop := ∀ (l0 : List ByteArray) (l1 : List ByteArray), (l0.length * 16 ≤ 140737488351232 ∧ l0.length ≤ 9223372036854775807 ∧ ∀ y_l0 ∈ l0, y_l0.size ≤ 140737488351232) → (l1.length * 16 ≤ 140737488351232 ∧ l1.length ≤ 9223372036854775807 ∧ ∀ y_l1 ∈ l1, y_l1.size ≤ 140737488351232) → ∃ k, forebearlaw05_DiffBack.f k l0 l1 = some true
theorem forebearlaw05_DiffBack.walk (P : forebearlaw05_DiffBack.Pure) (l0 : List ByteArray) (l1 : List ByteArray) (A0 : Option Addr) (c0 : Nat) (A1 : Option Addr) (c1 : Nat) (w : World) (g0 : (l0.length * 16 ≤ 140737488351232 ∧ l0.length ≤ 9223372036854775807 ∧ ∀ y_l0 ∈ l0, y_l0.size ≤ 140737488351232)) (g1 : (l1.length * 16 ≤ 140737488351232 ∧ l1.length ≤ 9223372036854775807 ∧ ∀ y_l1 ∈ l1, y_l1.size ≤ 140737488351232)) (hc0 : l0.length ≤ c0) (hr0 : Kd.C Kd.string w A0 l0.length l0) (hc1 : l1.length ≤ c1) (hr1 : Kd.C Kd.string w A1 l1.length l1) :
  Calls Try.prog 5 #[.slice A0 l0.length c0, .slice A1 l1.length c1] w fun e w' => e = .returned (.bool true) ∧ Below w.heap.size w w' := by
 obtain ⟨k, h⟩ := P l0 l1 g0 g1
 refine (forebearlaw05_DiffBack.calls k _ _ l0 _ _ l1 true w hr0 hc0 hr1 hc1 h).mono ?_
 rintro e w' ⟨rfl, hd⟩
 exact ⟨rfl, hd⟩

end Go.Proofs.Ythigjlahanejjaa.MD
