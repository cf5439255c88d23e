/- Laid by this claim's own program (myprint) out of the translation: functions that the laws of the group O reach, each as a plain function, with the proof that the Go code comes to it. No condition. -/
import Derived.Test.YthigjlahanejjaaMOx0
import Derived.Test.YthigjlahanejjaaMOx6
import Derived.Test.YthigjlahanejjaaMOx7
namespace Go.Proofs.Ythigjlahanejjaa.MO
open Go.Proofs.Ythigjlahanejjaa.Opening
open Go.RowKit Go.Proofs.YthigjlahanejjaaW.PrintWords Go.Proofs.YthigjlahanejjaaW.PrintLast Go.Proofs.YthigjlahanejjaaW.PrintMore
attribute [local go_sem] max2_int min2_int max_two min_two max_three min_three max_four min_four   -- for this text's walks alone
set_option linter.unusedVariables false
set_option linter.unusedSimpArgs false

/-! ### forebearref08_ReadCommit: function 34 -/
mutual
def forebearref08_ReadCommit.j0 : Nat → ByteArray → Bool → Option (Int × List Int × Int × ByteArray × Int)
 | 0, _, _ => none
 | k + 1, x0, x27 => if x27 = true then (some (0, ([] : List Int), 0, (⟨#[]⟩ : ByteArray), 9)) else (if 8 < (x0.size : Int) then (if 0 ≤ 8 then (if 8 ≤ (x0.size : Int) then ((forebearref07_Value.f k (x0.extract 0 8)).bind fun t210 => (if 0 ≤ (wrap64 (9 + (wrap64 (8 * (wrap64 (bt x0 8)))))) then (if (wrap64 (9 + (wrap64 (8 * (wrap64 (bt x0 8)))))) ≤ (wrap64 (17 + (wrap64 (8 * (wrap64 (bt x0 8)))))) then (if (wrap64 (17 + (wrap64 (8 * (wrap64 (bt x0 8)))))) ≤ (x0.size : Int) then ((forebearref07_Value.f k (x0.extract ((wrap64 (9 + (wrap64 (8 * (wrap64 (bt x0 8)))))) : Int).toNat ((wrap64 (17 + (wrap64 (8 * (wrap64 (bt x0 8)))))) : Int).toNat)).bind fun t211 => (if 0 ≤ (wrap64 (18 + (wrap64 (8 * (wrap64 (bt x0 8)))))) then (if (wrap64 (18 + (wrap64 (8 * (wrap64 (bt x0 8)))))) ≤ (x0.size : Int) then (forebearref08_ReadCommit.l0 k x0 (wrap64 (bt x0 8)) 0 t210 ([] : List Int) (wrap64 (t211)) (x0.extract ((wrap64 (18 + (wrap64 (8 * (wrap64 (bt x0 8)))))) : Int).toNat x0.size)) else (none)) else (none))) else (none)) else (none)) else (none))) else (none)) else (none)) else (none))
def forebearref08_ReadCommit.l0 : Nat → ByteArray → Int → Int → Int → List Int → Int → ByteArray → Option (Int × List Int × Int × ByteArray × Int)
 | 0, _, _, _, _, _, _, _ => none
 | k + 1, x0, x4, x6, x213000, x213001, x213002, x213003 => if x6 < x4 then (if 0 ≤ (wrap64 (9 + (wrap64 (8 * x6)))) then (if (wrap64 (9 + (wrap64 (8 * x6)))) ≤ (wrap64 (17 + (wrap64 (8 * x6)))) then (if (wrap64 (17 + (wrap64 (8 * x6)))) ≤ (x0.size : Int) then ((forebearref07_Value.f k (x0.extract ((wrap64 (9 + (wrap64 (8 * x6)))) : Int).toNat ((wrap64 (17 + (wrap64 (8 * x6)))) : Int).toNat)).bind fun t213 => (if x213001.length < 17592186044416 then (forebearref08_ReadCommit.l0 k x0 x4 (wrap64 (x6 + 1)) x213000 (x213001 ++ [t213]) x213002 x213003) else (none))) else (none)) else (none)) else (none)) else ((forebearref08_Write.f k x213000 x213001 x213002 x213003).bind fun bt217 => (if bt217.2 = 0 then (if bt217.1.toList = x0.toList then (some (x213000, x213001, x213002, x213003, 0)) else (some (0, ([] : List Int), 0, (⟨#[]⟩ : ByteArray), 9))) else (some (0, ([] : List Int), 0, (⟨#[]⟩ : ByteArray), 9))))
end
def forebearref08_ReadCommit.f (k : Nat) (a0 : ByteArray) : Option (Int × List Int × Int × ByteArray × Int) := if (a0.size : Int) < 9 then (forebearref08_ReadCommit.j0 k a0 true) else (if 8 < (a0.size : Int) then (if (wrap64 (bt a0 8)) > 8 then (forebearref08_ReadCommit.j0 k a0 true) else (forebearref08_ReadCommit.j0 k a0 (decide ((a0.size : Int) < (wrap64 (18 + (wrap64 (8 * (wrap64 (bt a0 8)))))))))) else (none))
theorem forebearref08_ReadCommit.mono_l : ∀ k, (∀ y0 y1, LeO (forebearref08_ReadCommit.j0 k y0 y1) (forebearref08_ReadCommit.j0 (k + 1) y0 y1)) ∧ (∀ y0 y1 y2 y3 y4 y5 y6, LeO (forebearref08_ReadCommit.l0 k y0 y1 y2 y3 y4 y5 y6) (forebearref08_ReadCommit.l0 (k + 1) y0 y1 y2 y3 y4 y5 y6))
 | 0 => ⟨fun _ _ r h => by simp [forebearref08_ReadCommit.j0] at h, fun _ _ _ _ _ _ _ r h => by simp [forebearref08_ReadCommit.l0] at h⟩
 | k + 1 => by
  obtain ⟨ih0, ih1⟩ := forebearref08_ReadCommit.mono_l k
  refine ⟨?_, ?_⟩
  ·intro y0 y1
   unfold forebearref08_ReadCommit.j0
   repeat' first
   | (with_reducible exact ih0 _ _)
   | (with_reducible exact ih1 _ _ _ _ _ _ _)
   | (with_reducible exact forebearref07_Value.mono _ _)
   | (with_reducible exact forebearref08_Write.mono _ _ _ _ _)
   | (with_reducible exact LeO.refl _)
   | (with_reducible exact LeO.none _)
   | (with_reducible refine LeO.ite ?_ ?_)
   | (with_reducible refine LeO.bind ?_ (fun _ => ?_))
   | exact ih0 _ _
   | exact ih1 _ _ _ _ _ _ _
   | exact forebearref07_Value.mono _ _
   | exact forebearref08_Write.mono _ _ _ _ _
   | exact LeO.none _
   | refine LeO.ite ?_ ?_
   | refine LeO.bind ?_ (fun _ => ?_)
  ·intro y0 y1 y2 y3 y4 y5 y6
   unfold forebearref08_ReadCommit.l0
   repeat' first
   | (with_reducible exact ih0 _ _)
   | (with_reducible exact ih1 _ _ _ _ _ _ _)
   | (with_reducible exact forebearref07_Value.mono _ _)
   | (with_reducible exact forebearref08_Write.mono _ _ _ _ _)
   | (with_reducible exact LeO.refl _)
   | (with_reducible exact LeO.none _)
   | (with_reducible refine LeO.ite ?_ ?_)
   | (with_reducible refine LeO.bind ?_ (fun _ => ?_))
   | exact ih0 _ _
   | exact ih1 _ _ _ _ _ _ _
   | exact forebearref07_Value.mono _ _
   | exact forebearref08_Write.mono _ _ _ _ _
   | exact LeO.none _
   | refine LeO.ite ?_ ?_
   | refine LeO.bind ?_ (fun _ => ?_)
theorem forebearref08_ReadCommit.mono : ∀ a0 k, LeO (forebearref08_ReadCommit.f k a0) (forebearref08_ReadCommit.f (k + 1) a0) := by
 intro a0 k
 obtain ⟨ih0, ih1⟩ := forebearref08_ReadCommit.mono_l k
 unfold forebearref08_ReadCommit.f
 repeat' first
   | (with_reducible exact ih0 _ _)
   | (with_reducible exact ih1 _ _ _ _ _ _ _)
   | (with_reducible exact forebearref07_Value.mono _ _)
   | (with_reducible exact forebearref08_Write.mono _ _ _ _ _)
   | (with_reducible exact LeO.refl _)
   | (with_reducible exact LeO.none _)
   | (with_reducible refine LeO.ite ?_ ?_)
   | (with_reducible refine LeO.bind ?_ (fun _ => ?_))
   | exact ih0 _ _
   | exact ih1 _ _ _ _ _ _ _
   | exact forebearref07_Value.mono _ _
   | exact forebearref08_Write.mono _ _ _ _ _
   | exact LeO.none _
   | refine LeO.ite ?_ ?_
   | refine LeO.bind ?_ (fun _ => ?_)
def forebearref08_ReadCommit.T4 : Bool × List (List Nat × List Nat) := (true, [([], []), ([0], [0]), ([1], [1]), ([], []), ([], []), ([4], [4]), ([5], [5]), ([], []), ([7], [7]), ([8], [8]), ([3, 6, 9], [3, 6, 9]), ([10, 2], [10]), ([11], [11]), ([], []), ([], []), ([14], [14]), ([15], [15]), ([13, 16], [13, 16]), ([2, 12, 17], [2, 12, 17]), ([], []), ([19, 18, 11, 0, 1, 2, 3, 4, 5, 6, 7, 8, 9, 10, 11, 12, 13, 14, 15, 16, 17, 18, 19], [18, 19])])
def forebearref08_ReadCommit.B4 : List Nat := [0, 1, 3, 0, 0, 16, 48, 0, 128, 384, 1016, 2047, 4095, 0, 0, 16384, 49152, 122880, 262143, 0, 1048575]
theorem forebearref08_ReadCommit.tab4 : rtab .any (opsOf Try.f34 4) = forebearref08_ReadCommit.T4 := by kernel_rfl
theorem forebearref08_ReadCommit.bits4 : waitsOk forebearref08_ReadCommit.T4.2 forebearref08_ReadCommit.B4 = true := by kernel_rfl
def forebearref08_ReadCommit.T8 : Bool × List (List Nat × List Nat) := (true, [([], []), ([0], [0]), ([], []), ([], []), ([3], [3]), ([4], [4]), ([], []), ([6], [6]), ([7], [7]), ([2, 5, 8], [2, 5, 8]), ([9], [9]), ([10], [10]), ([1, 11, 10], [1, 11]), ([0, 1, 2, 3, 4, 5, 6, 7, 8, 9, 10, 11, 12], []), ([13, 12, 12, 0, 1, 2, 3, 4, 5, 6, 7, 8, 9, 10, 11, 12], [12, 13])])
def forebearref08_ReadCommit.B8 : List Nat := [0, 1, 0, 0, 8, 24, 0, 64, 192, 508, 1020, 2044, 4095, 8191, 16383]
theorem forebearref08_ReadCommit.tab8 : rtab .any (opsOf Try.f34 8) = forebearref08_ReadCommit.T8 := by kernel_rfl
theorem forebearref08_ReadCommit.bits8 : waitsOk forebearref08_ReadCommit.T8.2 forebearref08_ReadCommit.B8 = true := by kernel_rfl
set_option maxHeartbeats 8000000 in
set_option maxRecDepth 100000 in
theorem forebearref08_ReadCommit.calls (k : Nat) (a0 : ByteArray) (r1 : Int) (r2 : List Int) (r3 : Int) (r4 : ByteArray) (r5 : Int) (w : World) (h : forebearref08_ReadCommit.f k a0 = some (r1, r2, r3, r4, r5)) :
  Calls Try.prog 34 #[.string a0] w fun e w' => ∃ v1_ : Value, e = .returned (.tuple #[.agg #[.int .u64 r1, v1_, .int .i64 r3, .string r4], .int .i64 r5]) ∧ Kd.R (Kd.int .u64) 64 w' w.heap.size (fun _ => True) v1_ r2 ∧ Below w.heap.size w w' := by
 have hu82 := Try.underlying82
 have HB := Aside0.mk (Below.refl w.heap.size w)
 have H : (if (a0.size : Int) < 9 then (forebearref08_ReadCommit.j0 k a0 true) else (if 8 < (a0.size : Int) then (if (wrap64 (bt a0 8)) > 8 then (forebearref08_ReadCommit.j0 k a0 true) else (forebearref08_ReadCommit.j0 k a0 (decide ((a0.size : Int) < (wrap64 (18 + (wrap64 (8 * (wrap64 (bt a0 8)))))))))) else (none))) = some (r1, r2, r3, r4, r5) := h
 clear h
 have HC2 := Aside0.mk H
 clear H
 go_enter Try.func34, Try.ntmps34
 go_upto_region 1 with (first | ((with_reducible refine gate_dst (N := 2) rfl ?_); (try (refine gate_guard (by rfl) ?_; dsimp only)); refine box_event ?hg (N := 2) ?hd (cs := #[.int .u64 0, .slice none 0 0, .int .i64 0, .string (⟨#[]⟩ : ByteArray)]) (t := 82) ?hr ?_; (case hd => rfl); (case hg => rfl); (case hr => first | (go_simp; done) | (go_simp; rfl)); intro gb209 hg w3 hbox hb; have n0_ := Aside0.mk (below_step (by repeat (first | (with_reducible first | exact HB.out | apply below_alloc | apply pw_below_drewN | apply below_drew1) | exact HB.out)) hb); have n1_ := Aside0.mk (hbox); have n2_ := Aside0.mk ((by rw [hg]; exact (below_size (by repeat (first | (with_reducible first | exact HB.out | apply below_alloc | apply pw_below_drewN | apply below_drew1) | exact HB.out))) : w.heap.size ≤ gb209)); have n3_ := Aside0.mk ((by rw [hg]; exact (below_size (by repeat (first | (with_reducible first | exact HB.out | apply below_alloc | apply pw_below_drewN | apply below_drew1) | exact HB.out))) : w.heap.size ≤ gb209)); clear HB; have HB := n0_; have BK209 := n1_; have GW209 := n2_; have GE209 := n3_; clear n0_ n1_ n2_ n3_; clear hb hbox hg))
 (try simp only [Act.put, List.setIfInBounds_toArray, List.set_cons_zero, List.set_cons_succ])
 go_cut [27] (fun v27 wc => ∃ (kq : Nat) (x27_1 : Bool), v27 = .bool x27_1 ∧ Aside0 (forebearref08_ReadCommit.j0 kq a0 x27_1 = some (r1, r2, r3, r4, r5)) ∧ Aside0 (kq ≤ k) ∧ Aside0 (wc.heap[gb209]? = some (.cells #[.int .u64 0, (.slice none 0 0), .int .i64 0, .string (⟨#[]⟩ : ByteArray)] 82 (0, 0))) ∧ Aside0 (Below w.heap.size w wc))
 case first =>
  have H := HC2.out
  clear HC2
  by_cases c4 : (a0.size : Int) < 9
  ·rw [if_pos c4] at H
   have c4b0 : decide ((a0.size : Int) < 9) = true := decide_eq_true c4
   have c4b1 : decide (a0.size < 9) = true := decide_eq_true (by omega)
   clear c4
   (first | rw [c4b0] | (simp only [i64_w, i32_w]; rw [c4b0]) | skip)
   have H' := Aside0.mk H
   clear H
   go_wp2
   go_meet
   case rel => exact ⟨_, (true), (by first | rfl | (simp; done) | (simp [*]; done)), H', ⟨by first | omega | exact Nat.le_refl _⟩, ⟨by (with_reducible repeat (first | refine blk_drewN ?_ _ | refine blk_drew ?_ | refine blk_alloc ?_ _)); exact BK209.out⟩, ⟨by repeat (first | (with_reducible first | exact HB.out | apply below_alloc | apply pw_below_drewN | apply below_drew1 | refine below_set ?_ GE209.out) | exact HB.out)⟩⟩
  ·rw [if_neg c4] at H
   have c4b0 : decide ((a0.size : Int) < 9) = false := decide_eq_false c4
   have c4b1 : decide (a0.size < 9) = false := decide_eq_false (by omega)
   clear c4
   (first | rw [c4b0] | (simp only [i64_w, i32_w]; rw [c4b0]) | skip)
   by_cases c5 : 8 < (a0.size : Int)
   ·rw [if_pos c5] at H
    have c5b0 : decide (8 < (a0.size : Int)) = true := decide_eq_true c5
    have c5b1 : decide (8 < a0.size) = true := decide_eq_true (by omega)
    clear c5
    by_cases c7 : (wrap64 (bt a0 8)) > 8
    ·rw [if_pos c7] at H
     have c7b0 : decide (8 < (wrap64 (bt a0 8))) = true := decide_eq_true c7
     clear c7
     have H' := Aside0.mk H
     clear H
     have p6 : 0 ≤ (8 : Int) := (by omega)
     have q6 : 8 < a0.size := (by have : (8 : Int) < (a0.size : Int) := of_decide_eq_true (by first | (with_reducible assumption) | assumption); omega)
     have hx6 : ∀ h : 8 < a0.size, ((a0[8]'h).toNat : Int) = bt a0 8 := bt_at a0 8
     clear p6
     have qi6 : (8 < (a0.size : Int)) = True := eq_true (of_decide_eq_true (by first | (with_reducible assumption) | assumption))
     replace q6 := eq_true q6
     go_wp2
     go_meet
     case rel => exact ⟨_, (true), (by first | rfl | (simp; done) | (simp [*]; done)), H', ⟨by first | omega | exact Nat.le_refl _⟩, ⟨by (with_reducible repeat (first | refine blk_drewN ?_ _ | refine blk_drew ?_ | refine blk_alloc ?_ _)); exact BK209.out⟩, ⟨by repeat (first | (with_reducible first | exact HB.out | apply below_alloc | apply pw_below_drewN | apply below_drew1 | refine below_set ?_ GE209.out) | exact HB.out)⟩⟩
    ·rw [if_neg c7] at H
     have c7b0 : decide (8 < (wrap64 (bt a0 8))) = false := decide_eq_false c7
     clear c7
     have H' := Aside0.mk H
     clear H
     have p6 : 0 ≤ (8 : Int) := (by omega)
     have q6 : 8 < a0.size := (by have : (8 : Int) < (a0.size : Int) := of_decide_eq_true (by first | (with_reducible assumption) | assumption); omega)
     have hx6 : ∀ h : 8 < a0.size, ((a0[8]'h).toNat : Int) = bt a0 8 := bt_at a0 8
     clear p6
     have qi6 : (8 < (a0.size : Int)) = True := eq_true (of_decide_eq_true (by first | (with_reducible assumption) | assumption))
     replace q6 := eq_true q6
     have p8 : 0 ≤ (8 : Int) := (by omega)
     have q8 : 8 < a0.size := (by have : (8 : Int) < (a0.size : Int) := of_decide_eq_true (by first | (with_reducible assumption) | assumption); omega)
     have hx8 : ∀ h : 8 < a0.size, ((a0[8]'h).toNat : Int) = bt a0 8 := bt_at a0 8
     clear p8
     have qi8 : (8 < (a0.size : Int)) = True := eq_true (of_decide_eq_true (by first | (with_reducible assumption) | assumption))
     replace q8 := eq_true q8
     go_wp2
     go_meet
     case rel => exact ⟨_, (decide ((a0.size : Int) < (wrap64 (18 + (wrap64 (8 * (wrap64 (bt a0 8)))))))), (by first | rfl | (simp; done) | (simp [*]; done)), H', ⟨by first | omega | exact Nat.le_refl _⟩, ⟨by (with_reducible repeat (first | refine blk_drewN ?_ _ | refine blk_drew ?_ | refine blk_alloc ?_ _)); exact BK209.out⟩, ⟨by repeat (first | (with_reducible first | exact HB.out | apply below_alloc | apply pw_below_drewN | apply below_drew1 | refine below_set ?_ GE209.out) | exact HB.out)⟩⟩
   ·rw [if_neg c5] at H
    exact absurd H (by simp)
 case rest =>
  clear HC2
  try clear p2
  try clear c3
  try clear c4
  try clear c4b0
  try clear c4b1
  try clear c5
  try clear c5b0
  try clear c5b1
  try clear p6
  try clear q6
  try clear hx6
  try clear qi6
  try clear c7
  try clear c7b0
  try clear p8
  try clear q8
  try clear hx8
  try clear qi8
  try clear p6
  try clear p8
  try clear q6
  try clear q8
  obtain ⟨kq, x27_1, rfl, HA, HJ1, BK209, HB⟩ := hcut
  cases kq with
  | zero => exact absurd HA.out (by simp [forebearref08_ReadCommit.j0])
  | succ kj1 =>
   have H := HA.out
   clear HA
   simp only [forebearref08_ReadCommit.j0] at H
   by_cases c9 : x27_1 = true
   ·subst c9
    have H1 : (some (0, ([] : List Int), 0, (⟨#[]⟩ : ByteArray), 9)) = some (r1, r2, r3, r4, r5) := by rw [if_pos rfl] at H; exact H
    clear H
    have H := H1
    clear H1
    simp only [Option.some.injEq, Prod.mk.injEq] at H
    obtain ⟨rfl, rfl, rfl, rfl, rfl⟩ := H
    have hcz10_0 : wc.cell? ⟨gb209, 0, none⟩ = some (.int .u64 0) := (blk_cell BK209.out 0).trans rfl
    have hcz10_1 : wc.cell? ⟨gb209, 1, none⟩ = some (.slice none 0 0) := (blk_cell BK209.out 1).trans rfl
    have hcz10_2 : wc.cell? ⟨gb209, 2, none⟩ = some (.int .i64 0) := (blk_cell BK209.out 2).trans rfl
    have hcz10_3 : wc.cell? ⟨gb209, 3, none⟩ = some (.string (⟨#[]⟩ : ByteArray)) := (blk_cell BK209.out 3).trans rfl
    have hfz10_0 := blk_frozen BK209.out 0
    have hfz10_1 := blk_frozen BK209.out 1
    have hfz10_2 := blk_frozen BK209.out 2
    have hfz10_3 := blk_frozen BK209.out 3
    go_wp2
    refine bodyPost_ret (results_ct rfl _ _ gb209 82 #[.int .u64 0, .slice none 0 0, .int .i64 0, .string (⟨#[]⟩ : ByteArray)] (0, 0) _ rfl (by (with_reducible repeat (first | refine blk_drewN ?_ _ | refine blk_drew ?_ | refine blk_alloc ?_ _)); refine blk_put (cs := #[.int .u64 0, .slice none 0 0, .int .i64 0, .string (⟨#[]⟩ : ByteArray)]) ?_ 3 _ rfl; (with_reducible repeat (first | refine blk_drewN ?_ _ | refine blk_drew ?_ | refine blk_alloc ?_ _)); refine blk_put (cs := #[.int .u64 0, .slice none 0 0, .int .i64 0, .string (⟨#[]⟩ : ByteArray)]) ?_ 2 _ rfl; (with_reducible repeat (first | refine blk_drewN ?_ _ | refine blk_drew ?_ | refine blk_alloc ?_ _)); refine blk_put (cs := #[.int .u64 0, .slice none 0 0, .int .i64 0, .string (⟨#[]⟩ : ByteArray)]) ?_ 1 _ rfl; (with_reducible repeat (first | refine blk_drewN ?_ _ | refine blk_drew ?_ | refine blk_alloc ?_ _)); refine blk_put (cs := #[.int .u64 0, .slice none 0 0, .int .i64 0, .string (⟨#[]⟩ : ByteArray)]) ?_ 0 _ rfl; (with_reducible repeat (first | refine blk_drewN ?_ _ | refine blk_drew ?_ | refine blk_alloc ?_ _)); exact BK209.out) Try.underlying82 rfl (by kernel_rfl)) rfl ?_
    exact ⟨_, by first | rfl | (simp [errW_none, errW_some] <;> rfl) | (simp [*, errW_none, errW_some] <;> rfl), by first | exact Kd.R_nil _ _ _ _ _ | exact Kd.N_nil _ _ _ _ _ | exact Kd.V_nil _ _ _ _ _ | exact Kd.Q_nil _ _ _ _ _ | exact Kd.S_nil _ _ _ _ _, by repeat (first | (with_reducible first | exact HB.out | apply below_alloc | apply pw_below_drewN | apply below_drew1 | refine below_set ?_ GE209.out) | exact HB.out)⟩
   ·replace c9 := Bool.eq_false_iff.mpr c9
    subst c9
    have H1 : (if 8 < (a0.size : Int) then (if 0 ≤ 8 then (if 8 ≤ (a0.size : Int) then ((forebearref07_Value.f kj1 (a0.extract 0 8)).bind fun t210 => (if 0 ≤ (wrap64 (9 + (wrap64 (8 * (wrap64 (bt a0 8)))))) then (if (wrap64 (9 + (wrap64 (8 * (wrap64 (bt a0 8)))))) ≤ (wrap64 (17 + (wrap64 (8 * (wrap64 (bt a0 8)))))) then (if (wrap64 (17 + (wrap64 (8 * (wrap64 (bt a0 8)))))) ≤ (a0.size : Int) then ((forebearref07_Value.f kj1 (a0.extract ((wrap64 (9 + (wrap64 (8 * (wrap64 (bt a0 8)))))) : Int).toNat ((wrap64 (17 + (wrap64 (8 * (wrap64 (bt a0 8)))))) : Int).toNat)).bind fun t211 => (if 0 ≤ (wrap64 (18 + (wrap64 (8 * (wrap64 (bt a0 8)))))) then (if (wrap64 (18 + (wrap64 (8 * (wrap64 (bt a0 8)))))) ≤ (a0.size : Int) then (forebearref08_ReadCommit.l0 kj1 a0 (wrap64 (bt a0 8)) 0 t210 ([] : List Int) (wrap64 (t211)) (a0.extract ((wrap64 (18 + (wrap64 (8 * (wrap64 (bt a0 8)))))) : Int).toNat a0.size)) else (none)) else (none))) else (none)) else (none)) else (none))) else (none)) else (none)) else (none)) = some (r1, r2, r3, r4, r5) := by rw [if_neg (show ¬ (false = true) by decide)] at H; exact H
    clear H
    have H := H1
    clear H1
    by_cases c11 : 8 < (a0.size : Int)
    ·rw [if_pos c11] at H
     have c11b0 : decide (8 < (a0.size : Int)) = true := decide_eq_true c11
     have c11b1 : decide (8 < a0.size) = true := decide_eq_true (by omega)
     clear c11
     by_cases c13 : 0 ≤ 8
     ·rw [if_pos c13] at H
      have c13b0 := eq_true c13
      have c13b1 : decide (0 ≤ 8) = true := decide_eq_true c13
      clear c13
      by_cases c14 : 8 ≤ (a0.size : Int)
      ·rw [if_pos c14] at H
       have c14b0 := eq_true c14
       have c14b1 : decide (8 ≤ (a0.size : Int)) = true := decide_eq_true c14
       clear c14
       replace H := Option.bind_eq_some_iff.mp H
       obtain ⟨t210, A150, H⟩ := H
       replace H : (if 0 ≤ (wrap64 (9 + (wrap64 (8 * (wrap64 (bt a0 8)))))) then (if (wrap64 (9 + (wrap64 (8 * (wrap64 (bt a0 8)))))) ≤ (wrap64 (17 + (wrap64 (8 * (wrap64 (bt a0 8)))))) then (if (wrap64 (17 + (wrap64 (8 * (wrap64 (bt a0 8)))))) ≤ (a0.size : Int) then ((forebearref07_Value.f kj1 (a0.extract ((wrap64 (9 + (wrap64 (8 * (wrap64 (bt a0 8)))))) : Int).toNat ((wrap64 (17 + (wrap64 (8 * (wrap64 (bt a0 8)))))) : Int).toNat)).bind fun t211 => (if 0 ≤ (wrap64 (18 + (wrap64 (8 * (wrap64 (bt a0 8)))))) then (if (wrap64 (18 + (wrap64 (8 * (wrap64 (bt a0 8)))))) ≤ (a0.size : Int) then (forebearref08_ReadCommit.l0 kj1 a0 (wrap64 (bt a0 8)) 0 t210 ([] : List Int) (wrap64 (t211)) (a0.extract ((wrap64 (18 + (wrap64 (8 * (wrap64 (bt a0 8)))))) : Int).toNat a0.size)) else (none)) else (none))) else (none)) else (none)) else (none)) = some (r1, r2, r3, r4, r5) := H
       have A15 := Aside0.mk A150
       clear A150
       obtain ⟨ji16, hji16⟩ : ∃ j_ : Int, (wrap64 (9 + (wrap64 (8 * (wrap64 (bt a0 8)))))) = j_ := ⟨_, rfl⟩
       replace H : (if 0 ≤ (ji16) then (if (ji16) ≤ (wrap64 (17 + (wrap64 (8 * (wrap64 (bt a0 8)))))) then (if (wrap64 (17 + (wrap64 (8 * (wrap64 (bt a0 8)))))) ≤ (a0.size : Int) then ((forebearref07_Value.f kj1 (a0.extract ((ji16) : Int).toNat ((wrap64 (17 + (wrap64 (8 * (wrap64 (bt a0 8)))))) : Int).toNat)).bind fun t211 => (if 0 ≤ (wrap64 (18 + (wrap64 (8 * (wrap64 (bt a0 8)))))) then (if (wrap64 (18 + (wrap64 (8 * (wrap64 (bt a0 8)))))) ≤ (a0.size : Int) then (forebearref08_ReadCommit.l0 kj1 a0 (wrap64 (bt a0 8)) 0 t210 ([] : List Int) (wrap64 (t211)) (a0.extract ((wrap64 (18 + (wrap64 (8 * (wrap64 (bt a0 8)))))) : Int).toNat a0.size)) else (none)) else (none))) else (none)) else (none)) else (none)) = some (r1, r2, r3, r4, r5) := by first | (rw [hji16] at H; exact H) | (simp only [hji16] at H ⊢; exact H)
       (try rw [hji16] at A15)
       have hji16w : (IntKind.i64.wrap (9 + (wrap64 (8 * (wrap64 (bt a0 8)))))) = ji16 := (i64_w _).trans hji16
       by_cases c17 : 0 ≤ (ji16)
       ·rw [if_pos c17] at H
        have c17b0 := eq_true c17
        have c17b1 : decide (0 ≤ (ji16)) = true := decide_eq_true c17
        clear c17
        by_cases c18 : (ji16) ≤ (wrap64 (17 + (wrap64 (8 * (wrap64 (bt a0 8))))))
        ·rw [if_pos c18] at H
         have c18b0 := eq_true c18
         have c18b1 : decide ((ji16) ≤ (wrap64 (17 + (wrap64 (8 * (wrap64 (bt a0 8))))))) = true := decide_eq_true c18
         by_cases c19 : (wrap64 (17 + (wrap64 (8 * (wrap64 (bt a0 8)))))) ≤ (a0.size : Int)
         ·rw [if_pos c19] at H
          have c19b0 := eq_true c19
          have c19b1 : decide ((wrap64 (17 + (wrap64 (8 * (wrap64 (bt a0 8)))))) ≤ (a0.size : Int)) = true := decide_eq_true c19
          replace H := Option.bind_eq_some_iff.mp H
          obtain ⟨t211, A200, H⟩ := H
          replace H : (if 0 ≤ (wrap64 (18 + (wrap64 (8 * (wrap64 (bt a0 8)))))) then (if (wrap64 (18 + (wrap64 (8 * (wrap64 (bt a0 8)))))) ≤ (a0.size : Int) then (forebearref08_ReadCommit.l0 kj1 a0 (wrap64 (bt a0 8)) 0 t210 ([] : List Int) (wrap64 (t211)) (a0.extract ((wrap64 (18 + (wrap64 (8 * (wrap64 (bt a0 8)))))) : Int).toNat a0.size)) else (none)) else (none)) = some (r1, r2, r3, r4, r5) := H
          have A20 := Aside0.mk A200
          clear A200
          obtain ⟨ji21, hji21⟩ : ∃ j_ : Int, (wrap64 (18 + (wrap64 (8 * (wrap64 (bt a0 8)))))) = j_ := ⟨_, rfl⟩
          replace H : (if 0 ≤ (ji21) then (if (ji21) ≤ (a0.size : Int) then (forebearref08_ReadCommit.l0 kj1 a0 (wrap64 (bt a0 8)) 0 t210 ([] : List Int) (wrap64 (t211)) (a0.extract ((ji21) : Int).toNat a0.size)) else (none)) else (none)) = some (r1, r2, r3, r4, r5) := by first | (rw [hji21] at H; exact H) | (simp only [hji21] at H ⊢; exact H)
          (try rw [hji21] at A15)
          (try rw [hji21] at A20)
          have hji21w : (IntKind.i64.wrap (18 + (wrap64 (8 * (wrap64 (bt a0 8)))))) = ji21 := (i64_w _).trans hji21
          by_cases c22 : 0 ≤ (ji21)
          ·rw [if_pos c22] at H
           have c22b0 := eq_true c22
           have c22b1 : decide (0 ≤ (ji21)) = true := decide_eq_true c22
           clear c22
           by_cases c23 : (ji21) ≤ (a0.size : Int)
           ·rw [if_pos c23] at H
            have c23b0 := eq_true c23
            have c23b1 : decide ((ji21) ≤ (a0.size : Int)) = true := decide_eq_true c23
            clear c23
            have H' := Aside0.mk H
            clear H
            have p12 : 0 ≤ (8 : Int) := (by omega)
            have q12 : 8 < a0.size := (by have : (8 : Int) < (a0.size : Int) := of_decide_eq_true (by first | (with_reducible assumption) | assumption); omega)
            have hx12 : ∀ h : 8 < a0.size, ((a0[8]'h).toNat : Int) = bt a0 8 := bt_at a0 8
            clear p12
            have qi12 : (8 < (a0.size : Int)) = True := eq_true (of_decide_eq_true (by first | (with_reducible assumption) | assumption))
            replace q12 := eq_true q12
            try go_wp2
            have n0_ := Aside0.mk (blk_drew BK209.out)
            have n1_ := Aside0.mk (below_drew1 HB.out)
            clear BK209
            clear HB
            have BK209 := n0_
            have HB := n1_
            clear n0_ n1_
            refine start_ (n := 21) (S := fun w' => True) (ds := []) (vb 0 21) (by kernel_rfl) rfl rfl trivial (fun hHeld => ?_); refine with_tabW forebearref08_ReadCommit.tab4 forebearref08_ReadCommit.bits4 (fun HT_ HW_ => ?_)
            generalize wc.drew = w24 at BK209 HB hHeld ⊢
            refine pure_ (i := 0) (N := some 32) (v := ?_) (a' := ?_) (vb 1 21) rfl rfl (any_of HT_.out (by kernel_rfl)) (fun _ _ _ h => h) (Or.inl ⟨by rfl, ?_⟩) ?_ ?_
            rotate_left
            ·intro w'
             go_simp
             with_reducible rfl
            rotate_left
            ·simp only [Act.put, List.setIfInBounds_toArray, List.set_cons_zero, List.set_cons_succ, i64_w, i32_w]
             rfl
            refine pure_ (i := 1) (N := some 33) (v := ?_) (a' := ?_) (vb 3 21) rfl rfl (any_of HT_.out (by kernel_rfl)) (fun _ _ _ h => h) (Or.inl ⟨by rfl, ?_⟩) ?_ ?_
            rotate_left
            ·intro w'
             go_simp
             with_reducible rfl
            rotate_left
            ·simp only [Act.put, List.setIfInBounds_toArray, List.set_cons_zero, List.set_cons_succ, i64_w, i32_w]
             rfl
            refine pure_ (i := 3) (N := some 35) (v := ?_) (a' := ?_) (vb 11 21) rfl rfl (any_of HT_.out (by kernel_rfl)) (fun _ _ _ h => h) (Or.inl ⟨by rfl, ?_⟩) ?_ ?_
            rotate_left
            ·intro w'
             go_simp
             with_reducible rfl
            rotate_left
            ·simp only [Act.put, List.setIfInBounds_toArray, List.set_cons_zero, List.set_cons_succ, i64_w, i32_w]
             rfl
            refine pure_ (i := 4) (N := some 36) (v := ?_) (a' := ?_) (vb 27 21) rfl rfl (any_of HT_.out (by kernel_rfl)) (fun _ _ _ h => h) (Or.inl ⟨by rfl, ?_⟩) ?_ ?_
            rotate_left
            ·intro w'
             go_simp
             with_reducible rfl
            rotate_left
            ·simp only [Act.put, List.setIfInBounds_toArray, List.set_cons_zero, List.set_cons_succ, i64_w, i32_w]
             rfl
            refine pure_ (i := 5) (N := some 37) (v := ?_) (a' := ?_) (vb 59 21) rfl rfl (any_of HT_.out (by kernel_rfl)) (fun _ _ _ h => h) (Or.inl ⟨by rfl, ?_⟩) ?_ ?_
            rotate_left
            ·intro w'
             go_simp
             with_reducible rfl
            rotate_left
            ·simp only [Act.put, List.setIfInBounds_toArray, List.set_cons_zero, List.set_cons_succ, i64_w, i32_w]
             rfl
            refine pure_ (i := 6) (N := some 38) (v := ?_) (a' := ?_) (vb 123 21) rfl rfl (any_of HT_.out (by kernel_rfl)) (fun _ _ _ h => h) (Or.inl ⟨by rfl, ?_⟩) ?_ ?_
            rotate_left
            ·intro w'
             go_simp
             with_reducible rfl
            rotate_left
            ·simp only [Act.put, List.setIfInBounds_toArray, List.set_cons_zero, List.set_cons_succ, i64_w, i32_w]
             rfl
            refine pure_ (i := 7) (N := some 39) (v := ?_) (a' := ?_) (vb 251 21) rfl rfl (any_of HT_.out (by kernel_rfl)) (fun _ _ _ h => h) (Or.inl ⟨by rfl, ?_⟩) ?_ ?_
            rotate_left
            ·intro w'
             go_simp
             with_reducible rfl
            rotate_left
            ·simp only [Act.put, List.setIfInBounds_toArray, List.set_cons_zero, List.set_cons_succ, i64_w, i32_w]
             rfl
            refine pure_ (i := 8) (N := some 40) (v := ?_) (a' := ?_) (vb 507 21) rfl rfl (any_of HT_.out (by kernel_rfl)) (fun _ _ _ h => h) (Or.inl ⟨by rfl, ?_⟩) ?_ ?_
            rotate_left
            ·intro w'
             go_simp
             with_reducible rfl
            rotate_left
            ·simp only [Act.put, List.setIfInBounds_toArray, List.set_cons_zero, List.set_cons_succ, i64_w, i32_w]
             rfl
            refine pure_ (i := 9) (N := some 41) (v := ?_) (a' := ?_) (vb 1019 21) rfl rfl (any_of HT_.out (by kernel_rfl)) (fun _ _ _ h => h) (Or.inl ⟨by rfl, ?_⟩) ?_ ?_
            rotate_left
            ·intro w'
             go_simp
             with_reducible rfl
            rotate_left
            ·simp only [Act.put, List.setIfInBounds_toArray, List.set_cons_zero, List.set_cons_succ, i64_w, i32_w]
             rfl
            refine pure_ (i := 10) (N := some 42) (v := ?_) (a' := ?_) (vb 2043 21) rfl rfl (any_of HT_.out (by kernel_rfl)) (fun _ _ _ h => h) (Or.inl ⟨by rfl, ?_⟩) ?_ ?_
            rotate_left
            ·intro w'
             go_simp
             with_reducible rfl
            rotate_left
            ·simp only [Act.put, List.setIfInBounds_toArray, List.set_cons_zero, List.set_cons_succ, i64_w, i32_w]
             rfl
            refine pure_ (i := 13) (N := some 45) (v := ?_) (a' := ?_) (vb 10235 21) rfl rfl (any_of HT_.out (by kernel_rfl)) (fun _ _ _ h => h) (Or.inl ⟨by rfl, ?_⟩) ?_ ?_
            rotate_left
            ·intro w'
             go_simp
             with_reducible rfl
            rotate_left
            ·simp only [Act.put, List.setIfInBounds_toArray, List.set_cons_zero, List.set_cons_succ, i64_w, i32_w]
             rfl
            refine pure_ (i := 14) (N := some 46) (v := ?_) (a' := ?_) (vb 26619 21) rfl rfl (any_of HT_.out (by kernel_rfl)) (fun _ _ _ h => h) (Or.inl ⟨by rfl, ?_⟩) ?_ ?_
            rotate_left
            ·intro w'
             go_simp
             with_reducible rfl
            rotate_left
            ·simp only [Act.put, List.setIfInBounds_toArray, List.set_cons_zero, List.set_cons_succ, i64_w, i32_w]
             rfl
            refine pure_ (i := 15) (N := some 47) (v := ?_) (a' := ?_) (vb 59387 21) rfl rfl (any_of HT_.out (by kernel_rfl)) (fun _ _ _ h => h) (Or.inl ⟨by rfl, ?_⟩) ?_ ?_
            rotate_left
            ·intro w'
             go_simp
             with_reducible rfl
            rotate_left
            ·simp only [Act.put, List.setIfInBounds_toArray, List.set_cons_zero, List.set_cons_succ, i64_w, i32_w]
             rfl
            refine pure_ (i := 16) (N := some 48) (v := ?_) (a' := ?_) (vb 124923 21) rfl rfl (any_of HT_.out (by kernel_rfl)) (fun _ _ _ h => h) (Or.inl ⟨by rfl, ?_⟩) ?_ ?_
            rotate_left
            ·intro w'
             go_simp
             with_reducible rfl
            rotate_left
            ·simp only [Act.put, List.setIfInBounds_toArray, List.set_cons_zero, List.set_cons_succ, i64_w, i32_w]
             rfl
            refine pure_ (i := 17) (N := some 49) (v := ?_) (a' := ?_) (vb 255995 21) rfl rfl (any_of HT_.out (by kernel_rfl)) (fun _ _ _ h => h) (Or.inl ⟨by rfl, ?_⟩) ?_ ?_
            rotate_left
            ·intro w'
             go_simp
             with_reducible rfl
            rotate_left
            ·simp only [Act.put, List.setIfInBounds_toArray, List.set_cons_zero, List.set_cons_succ, i64_w, i32_w]
             rfl
            refine join_ (σ := Nat) 1 (vb 1048575 21) (fun s_ => [(34, .int .u64 t210), (43, .int .u64 t211), (5, .pointer (some ⟨s_, 0, none⟩)), (44, .int .i64 (wrap64 (t211))), (50, .agg #[.int .u64 t210, .slice none 0 0, .int .i64 (wrap64 (t211)), .string (a0.extract ((ji21) : Int).toNat a0.size)])]) (fun s_ w' => (w'.heap[gb209]? = some (.cells #[.int .u64 0, .slice none 0 0, .int .i64 0, .string (⟨#[]⟩ : ByteArray)] 82 (0, 0))) ∧ (w'.heap[s_]? = some (.cells #[.int .u64 0, .slice none 0 0, .int .i64 0, .string (⟨#[]⟩ : ByteArray)] 82 (0, 0))) ∧ (w.heap.size ≤ s_) ∧ (w.heap.size ≤ s_) ∧ (gb209 ≠ s_) ∧ (s_ ≠ gb209) ∧ (Below w.heap.size w w')) ?_ ?_
            rotate_left
            ·intro hCont
             refine two_ (i := 2) (j := 19) (Ni := some 34) (Nj := some 5) (vb 255999 21) (vb 780283 21) rfl rfl rfl rfl (two_of HT_.out (by kernel_rfl)) (by decide) (by decide) (fun K hK => ?_) (fun K hK => ?_)
             ·skip
              refine goes_ Try.func52 (by kernel_rfl) rfl #[.string (a0.extract 0 8)] (by rfl) rfl rfl (by (try simp only [List.map_toArray, List.map_cons, List.map_nil]); first | done | rfl | (simp only [List.length_drop, List.length_take]; rfl)) ?_
              with_reducible refine (forebearref07_Value.calls kj1 (a0.extract 0 8) t210 _ A15.out).mono ?_
              rintro e w' ⟨rfl, ⟨nd, rfl⟩⟩
              refine ⟨_, rfl, ?_⟩
              refine hK.out _ _ trivial (fun hHeld => ?_)
              clear hK K
              refine norm_ (a' := ?_) ?_ ?_
              rotate_left
              ·show Act.put _ (some 34) _ = _
               simp only [Act.put, List.setIfInBounds_toArray, List.set_cons_zero, List.set_cons_succ, i64_w, i32_w]
               rfl
              refine two_ (i := 11) (j := 19) (Ni := some 43) (Nj := some 5) (vb 258047 21) (vb 780287 21) rfl rfl rfl rfl (two_of HT_.out (by kernel_rfl)) (by decide) (by decide) (fun K hK => ?_) (fun K hK => ?_)
              ·skip
               refine goes_ Try.func52 (by kernel_rfl) rfl #[.string (a0.extract ((ji16) : Int).toNat ((wrap64 (17 + (wrap64 (8 * (wrap64 (bt a0 8)))))) : Int).toNat)] (by rfl) rfl rfl (by (try simp only [List.map_toArray, List.map_cons, List.map_nil]); first | done | (simp only [hji16]; rfl) | rfl | (simp only [List.length_drop, List.length_take]; rfl)) ?_
               with_reducible refine (forebearref07_Value.calls kj1 (a0.extract ((ji16) : Int).toNat ((wrap64 (17 + (wrap64 (8 * (wrap64 (bt a0 8)))))) : Int).toNat) t211 _ A20.out).mono ?_
               rintro e w' ⟨rfl, ⟨nd, rfl⟩⟩
               refine ⟨_, rfl, ?_⟩
               refine hK.out _ _ trivial (fun hHeld => ?_)
               clear hK K
               refine norm_ (a' := ?_) ?_ ?_
               rotate_left
               ·show Act.put _ (some 43) _ = _
                simp only [Act.put, List.setIfInBounds_toArray, List.set_cons_zero, List.set_cons_succ, i64_w, i32_w]
                rfl
               refine pure_ (i := 12) (N := some 44) (v := ?_) (a' := ?_) (vb 262143 21) rfl rfl (any_of HT_.out (by kernel_rfl)) (fun _ _ _ h => h) (Or.inl ⟨by rfl, ?_⟩) ?_ ?_
               rotate_left
               ·intro w'
                go_simp
                with_reducible rfl
               rotate_left
               ·simp only [Act.put, List.setIfInBounds_toArray, List.set_cons_zero, List.set_cons_succ, i64_w, i32_w]
                rfl
               refine pure_ (i := 18) (N := some 50) (v := ?_) (a' := ?_) (vb 524287 21) rfl rfl (any_of HT_.out (by kernel_rfl)) (fun _ _ _ h => h) (Or.inl ⟨by rfl, ?_⟩) ?_ ?_
               rotate_left
               ·intro w'
                go_simp
                with_reducible rfl
               rotate_left
               ·simp only [Act.put, List.setIfInBounds_toArray, List.set_cons_zero, List.set_cons_succ, i64_w, i32_w]
                rfl
               refine one_ (i := 19) (N := some 5) (vb 1048575 21) rfl rfl (one_of HT_.out (by kernel_rfl)) (by decide) (fun K hK => ?_)
               refine box_step ?hg (N := 5) ?hd (cs := #[.int .u64 0, .slice none 0 0, .int .i64 0, .string (⟨#[]⟩ : ByteArray)]) (t := 82) ?hr ?_; (case hd => rfl); (case hg => rfl); (case hr => first | (go_simp; done) | (go_simp; rfl))
               intro gb212 hg w25 hbox hb
               have n0_ := Aside0.mk (blk_below (g := gb209) (o := .cells #[.int .u64 0, .slice none 0 0, .int .i64 0, .string (⟨#[]⟩ : ByteArray)] 82 (0, 0)) (by (with_reducible repeat (first | refine blk_drewN ?_ _ | refine blk_drew ?_ | refine blk_alloc ?_ _)); exact BK209.out) hb)
               have n1_ := Aside0.mk (below_step (by repeat (first | (with_reducible first | exact HB.out | apply below_alloc | apply pw_below_drewN | apply below_drew1 | refine below_set ?_ GE209.out) | exact HB.out)) hb)
               have n2_ := Aside0.mk (hbox)
               have n3_ := Aside0.mk ((by rw [hg]; exact (below_size (by repeat (first | (with_reducible first | exact HB.out | apply below_alloc | apply pw_below_drewN | apply below_drew1 | refine below_set ?_ GE209.out) | exact HB.out))) : w.heap.size ≤ gb212))
               have n4_ := Aside0.mk ((by rw [hg]; exact (below_size (by repeat (first | (with_reducible first | exact HB.out | apply below_alloc | apply pw_below_drewN | apply below_drew1 | refine below_set ?_ GE209.out) | exact HB.out))) : w.heap.size ≤ gb212))
               have n5_ := Aside0.mk ((by rw [hg]; exact Nat.ne_of_lt (blk_lt (g := gb209) (o := .cells #[.int .u64 0, .slice none 0 0, .int .i64 0, .string (⟨#[]⟩ : ByteArray)] 82 (0, 0)) (by (with_reducible repeat (first | refine blk_drewN ?_ _ | refine blk_drew ?_ | refine blk_alloc ?_ _)); exact BK209.out)) : gb209 ≠ gb212))
               have n6_ := Aside0.mk ((by rw [hg]; exact Nat.ne_of_gt (blk_lt (g := gb209) (o := .cells #[.int .u64 0, .slice none 0 0, .int .i64 0, .string (⟨#[]⟩ : ByteArray)] 82 (0, 0)) (by (with_reducible repeat (first | refine blk_drewN ?_ _ | refine blk_drew ?_ | refine blk_alloc ?_ _)); exact BK209.out)) : gb212 ≠ gb209))
               clear BK209
               clear HB
               have BK209 := n0_
               have HB := n1_
               have BK212 := n2_
               have GW212 := n3_
               have GE212 := n4_
               have NB209_212 := n5_
               have NB212_209 := n6_
               clear n0_ n1_ n2_ n3_ n4_ n5_ n6_
               clear hb hbox hg
               refine hK.out _ _ trivial (fun hHeld => ?_)
               clear hK K
               refine norm_ (a' := ?_) ?_ ?_
               rotate_left
               ·show Act.put _ (some 5) _ = _
                simp only [Act.put, List.setIfInBounds_toArray, List.set_cons_zero, List.set_cons_succ, i64_w, i32_w]
                rfl
               exact norm_ (by simp only [putAll, Act.put, List.setIfInBounds_toArray, List.set_cons_zero, List.set_cons_succ]) (hCont (gb212) _ ⟨(by (with_reducible repeat (first | refine blk_drewN ?_ _ | refine blk_drew ?_ | refine blk_alloc ?_ _)); exact BK209.out), (by (with_reducible repeat (first | refine blk_drewN ?_ _ | refine blk_drew ?_ | refine blk_alloc ?_ _)); exact BK212.out), GW212.out, GE212.out, NB209_212.out, NB212_209.out, (by repeat (first | (with_reducible first | exact HB.out | apply below_alloc | apply pw_below_drewN | apply below_drew1 | refine below_set ?_ GE209.out | refine below_set ?_ GE212.out) | exact HB.out))⟩)
              ·skip
               refine box_step ?hg (N := 5) ?hd (cs := #[.int .u64 0, .slice none 0 0, .int .i64 0, .string (⟨#[]⟩ : ByteArray)]) (t := 82) ?hr ?_; (case hd => rfl); (case hg => rfl); (case hr => first | (go_simp; done) | (go_simp; rfl))
               intro gb212 hg w25 hbox hb
               have n0_ := Aside0.mk (blk_below (g := gb209) (o := .cells #[.int .u64 0, .slice none 0 0, .int .i64 0, .string (⟨#[]⟩ : ByteArray)] 82 (0, 0)) (by (with_reducible repeat (first | refine blk_drewN ?_ _ | refine blk_drew ?_ | refine blk_alloc ?_ _)); exact BK209.out) hb)
               have n1_ := Aside0.mk (below_step (by repeat (first | (with_reducible first | exact HB.out | apply below_alloc | apply pw_below_drewN | apply below_drew1 | refine below_set ?_ GE209.out) | exact HB.out)) hb)
               have n2_ := Aside0.mk (hbox)
               have n3_ := Aside0.mk ((by rw [hg]; exact (below_size (by repeat (first | (with_reducible first | exact HB.out | apply below_alloc | apply pw_below_drewN | apply below_drew1 | refine below_set ?_ GE209.out) | exact HB.out))) : w.heap.size ≤ gb212))
               have n4_ := Aside0.mk ((by rw [hg]; exact (below_size (by repeat (first | (with_reducible first | exact HB.out | apply below_alloc | apply pw_below_drewN | apply below_drew1 | refine below_set ?_ GE209.out) | exact HB.out))) : w.heap.size ≤ gb212))
               have n5_ := Aside0.mk ((by rw [hg]; exact Nat.ne_of_lt (blk_lt (g := gb209) (o := .cells #[.int .u64 0, .slice none 0 0, .int .i64 0, .string (⟨#[]⟩ : ByteArray)] 82 (0, 0)) (by (with_reducible repeat (first | refine blk_drewN ?_ _ | refine blk_drew ?_ | refine blk_alloc ?_ _)); exact BK209.out)) : gb209 ≠ gb212))
               have n6_ := Aside0.mk ((by rw [hg]; exact Nat.ne_of_gt (blk_lt (g := gb209) (o := .cells #[.int .u64 0, .slice none 0 0, .int .i64 0, .string (⟨#[]⟩ : ByteArray)] 82 (0, 0)) (by (with_reducible repeat (first | refine blk_drewN ?_ _ | refine blk_drew ?_ | refine blk_alloc ?_ _)); exact BK209.out)) : gb212 ≠ gb209))
               clear BK209
               clear HB
               have BK209 := n0_
               have HB := n1_
               have BK212 := n2_
               have GW212 := n3_
               have GE212 := n4_
               have NB209_212 := n5_
               have NB212_209 := n6_
               clear n0_ n1_ n2_ n3_ n4_ n5_ n6_
               clear hb hbox hg
               refine hK.out _ _ trivial (fun hHeld => ?_)
               clear hK K
               refine norm_ (a' := ?_) ?_ ?_
               rotate_left
               ·show Act.put _ (some 5) _ = _
                simp only [Act.put, List.setIfInBounds_toArray, List.set_cons_zero, List.set_cons_succ, i64_w, i32_w]
                rfl
               refine one_ (i := 11) (N := some 43) (vb 782335 21) rfl rfl (one_of HT_.out (by kernel_rfl)) (by decide) (fun K hK => ?_)
               refine goes_ Try.func52 (by kernel_rfl) rfl #[.string (a0.extract ((ji16) : Int).toNat ((wrap64 (17 + (wrap64 (8 * (wrap64 (bt a0 8)))))) : Int).toNat)] (by rfl) rfl rfl (by (try simp only [List.map_toArray, List.map_cons, List.map_nil]); first | done | (simp only [hji16]; rfl) | rfl | (simp only [List.length_drop, List.length_take]; rfl)) ?_
               with_reducible refine (forebearref07_Value.calls kj1 (a0.extract ((ji16) : Int).toNat ((wrap64 (17 + (wrap64 (8 * (wrap64 (bt a0 8)))))) : Int).toNat) t211 _ A20.out).mono ?_
               rintro e w' ⟨rfl, ⟨nd, rfl⟩⟩
               refine ⟨_, rfl, ?_⟩
               refine hK.out _ _ trivial (fun hHeld => ?_)
               clear hK K
               refine norm_ (a' := ?_) ?_ ?_
               rotate_left
               ·show Act.put _ (some 43) _ = _
                simp only [Act.put, List.setIfInBounds_toArray, List.set_cons_zero, List.set_cons_succ, i64_w, i32_w]
                rfl
               refine pure_ (i := 12) (N := some 44) (v := ?_) (a' := ?_) (vb 786431 21) rfl rfl (any_of HT_.out (by kernel_rfl)) (fun _ _ _ h => h) (Or.inl ⟨by rfl, ?_⟩) ?_ ?_
               rotate_left
               ·intro w'
                go_simp
                with_reducible rfl
               rotate_left
               ·simp only [Act.put, List.setIfInBounds_toArray, List.set_cons_zero, List.set_cons_succ, i64_w, i32_w]
                rfl
               refine pure_ (i := 18) (N := some 50) (v := ?_) (a' := ?_) (vb 1048575 21) rfl rfl (any_of HT_.out (by kernel_rfl)) (fun _ _ _ h => h) (Or.inl ⟨by rfl, ?_⟩) ?_ ?_
               rotate_left
               ·intro w'
                go_simp
                with_reducible rfl
               rotate_left
               ·simp only [Act.put, List.setIfInBounds_toArray, List.set_cons_zero, List.set_cons_succ, i64_w, i32_w]
                rfl
               exact norm_ (by simp only [putAll, Act.put, List.setIfInBounds_toArray, List.set_cons_zero, List.set_cons_succ]) (hCont (gb212) _ ⟨(by (with_reducible repeat (first | refine blk_drewN ?_ _ | refine blk_drew ?_ | refine blk_alloc ?_ _)); exact BK209.out), (by (with_reducible repeat (first | refine blk_drewN ?_ _ | refine blk_drew ?_ | refine blk_alloc ?_ _)); exact BK212.out), GW212.out, GE212.out, NB209_212.out, NB212_209.out, (by repeat (first | (with_reducible first | exact HB.out | apply below_alloc | apply pw_below_drewN | apply below_drew1 | refine below_set ?_ GE209.out | refine below_set ?_ GE212.out) | exact HB.out))⟩)
             ·skip
              refine box_step ?hg (N := 5) ?hd (cs := #[.int .u64 0, .slice none 0 0, .int .i64 0, .string (⟨#[]⟩ : ByteArray)]) (t := 82) ?hr ?_; (case hd => rfl); (case hg => rfl); (case hr => first | (go_simp; done) | (go_simp; rfl))
              intro gb212 hg w25 hbox hb
              have n0_ := Aside0.mk (blk_below (g := gb209) (o := .cells #[.int .u64 0, .slice none 0 0, .int .i64 0, .string (⟨#[]⟩ : ByteArray)] 82 (0, 0)) (by (with_reducible repeat (first | refine blk_drewN ?_ _ | refine blk_drew ?_ | refine blk_alloc ?_ _)); exact BK209.out) hb)
              have n1_ := Aside0.mk (below_step (by repeat (first | (with_reducible first | exact HB.out | apply below_alloc | apply pw_below_drewN | apply below_drew1 | refine below_set ?_ GE209.out) | exact HB.out)) hb)
              have n2_ := Aside0.mk (hbox)
              have n3_ := Aside0.mk ((by rw [hg]; exact (below_size (by repeat (first | (with_reducible first | exact HB.out | apply below_alloc | apply pw_below_drewN | apply below_drew1 | refine below_set ?_ GE209.out) | exact HB.out))) : w.heap.size ≤ gb212))
              have n4_ := Aside0.mk ((by rw [hg]; exact (below_size (by repeat (first | (with_reducible first | exact HB.out | apply below_alloc | apply pw_below_drewN | apply below_drew1 | refine below_set ?_ GE209.out) | exact HB.out))) : w.heap.size ≤ gb212))
              have n5_ := Aside0.mk ((by rw [hg]; exact Nat.ne_of_lt (blk_lt (g := gb209) (o := .cells #[.int .u64 0, .slice none 0 0, .int .i64 0, .string (⟨#[]⟩ : ByteArray)] 82 (0, 0)) (by (with_reducible repeat (first | refine blk_drewN ?_ _ | refine blk_drew ?_ | refine blk_alloc ?_ _)); exact BK209.out)) : gb209 ≠ gb212))
              have n6_ := Aside0.mk ((by rw [hg]; exact Nat.ne_of_gt (blk_lt (g := gb209) (o := .cells #[.int .u64 0, .slice none 0 0, .int .i64 0, .string (⟨#[]⟩ : ByteArray)] 82 (0, 0)) (by (with_reducible repeat (first | refine blk_drewN ?_ _ | refine blk_drew ?_ | refine blk_alloc ?_ _)); exact BK209.out)) : gb212 ≠ gb209))
              clear BK209
              clear HB
              have BK209 := n0_
              have HB := n1_
              have BK212 := n2_
              have GW212 := n3_
              have GE212 := n4_
              have NB209_212 := n5_
              have NB212_209 := n6_
              clear n0_ n1_ n2_ n3_ n4_ n5_ n6_
              clear hb hbox hg
              refine hK.out _ _ trivial (fun hHeld => ?_)
              clear hK K
              refine norm_ (a' := ?_) ?_ ?_
              rotate_left
              ·show Act.put _ (some 5) _ = _
               simp only [Act.put, List.setIfInBounds_toArray, List.set_cons_zero, List.set_cons_succ, i64_w, i32_w]
               rfl
              refine one_ (i := 2) (N := some 34) (vb 780287 21) rfl rfl (one_of HT_.out (by kernel_rfl)) (by decide) (fun K hK => ?_)
              refine goes_ Try.func52 (by kernel_rfl) rfl #[.string (a0.extract 0 8)] (by rfl) rfl rfl (by (try simp only [List.map_toArray, List.map_cons, List.map_nil]); first | done | rfl | (simp only [List.length_drop, List.length_take]; rfl)) ?_
              with_reducible refine (forebearref07_Value.calls kj1 (a0.extract 0 8) t210 _ A15.out).mono ?_
              rintro e w' ⟨rfl, ⟨nd, rfl⟩⟩
              refine ⟨_, rfl, ?_⟩
              refine hK.out _ _ trivial (fun hHeld => ?_)
              clear hK K
              refine norm_ (a' := ?_) ?_ ?_
              rotate_left
              ·show Act.put _ (some 34) _ = _
               simp only [Act.put, List.setIfInBounds_toArray, List.set_cons_zero, List.set_cons_succ, i64_w, i32_w]
               rfl
              refine one_ (i := 11) (N := some 43) (vb 782335 21) rfl rfl (one_of HT_.out (by kernel_rfl)) (by decide) (fun K hK => ?_)
              refine goes_ Try.func52 (by kernel_rfl) rfl #[.string (a0.extract ((ji16) : Int).toNat ((wrap64 (17 + (wrap64 (8 * (wrap64 (bt a0 8)))))) : Int).toNat)] (by rfl) rfl rfl (by (try simp only [List.map_toArray, List.map_cons, List.map_nil]); first | done | (simp only [hji16]; rfl) | rfl | (simp only [List.length_drop, List.length_take]; rfl)) ?_
              with_reducible refine (forebearref07_Value.calls kj1 (a0.extract ((ji16) : Int).toNat ((wrap64 (17 + (wrap64 (8 * (wrap64 (bt a0 8)))))) : Int).toNat) t211 _ A20.out).mono ?_
              rintro e w' ⟨rfl, ⟨nd, rfl⟩⟩
              refine ⟨_, rfl, ?_⟩
              refine hK.out _ _ trivial (fun hHeld => ?_)
              clear hK K
              refine norm_ (a' := ?_) ?_ ?_
              rotate_left
              ·show Act.put _ (some 43) _ = _
               simp only [Act.put, List.setIfInBounds_toArray, List.set_cons_zero, List.set_cons_succ, i64_w, i32_w]
               rfl
              refine pure_ (i := 12) (N := some 44) (v := ?_) (a' := ?_) (vb 786431 21) rfl rfl (any_of HT_.out (by kernel_rfl)) (fun _ _ _ h => h) (Or.inl ⟨by rfl, ?_⟩) ?_ ?_
              rotate_left
              ·intro w'
               go_simp
               with_reducible rfl
              rotate_left
              ·simp only [Act.put, List.setIfInBounds_toArray, List.set_cons_zero, List.set_cons_succ, i64_w, i32_w]
               rfl
              refine pure_ (i := 18) (N := some 50) (v := ?_) (a' := ?_) (vb 1048575 21) rfl rfl (any_of HT_.out (by kernel_rfl)) (fun _ _ _ h => h) (Or.inl ⟨by rfl, ?_⟩) ?_ ?_
              rotate_left
              ·intro w'
               go_simp
               with_reducible rfl
              rotate_left
              ·simp only [Act.put, List.setIfInBounds_toArray, List.set_cons_zero, List.set_cons_succ, i64_w, i32_w]
               rfl
              exact norm_ (by simp only [putAll, Act.put, List.setIfInBounds_toArray, List.set_cons_zero, List.set_cons_succ]) (hCont (gb212) _ ⟨(by (with_reducible repeat (first | refine blk_drewN ?_ _ | refine blk_drew ?_ | refine blk_alloc ?_ _)); exact BK209.out), (by (with_reducible repeat (first | refine blk_drewN ?_ _ | refine blk_drew ?_ | refine blk_alloc ?_ _)); exact BK212.out), GW212.out, GE212.out, NB209_212.out, NB212_209.out, (by repeat (first | (with_reducible first | exact HB.out | apply below_alloc | apply pw_below_drewN | apply below_drew1 | refine below_set ?_ GE209.out | refine below_set ?_ GE212.out) | exact HB.out))⟩)
            rintro gb212 w26 ⟨h0_, h1_, h2_, h3_, h4_, h5_, h6_⟩
            have n0_ : Aside0 (w26.heap[gb209]? = some (.cells #[.int .u64 0, .slice none 0 0, .int .i64 0, .string (⟨#[]⟩ : ByteArray)] 82 (0, 0))) := ⟨h0_⟩
            have n1_ : Aside0 (w26.heap[gb212]? = some (.cells #[.int .u64 0, .slice none 0 0, .int .i64 0, .string (⟨#[]⟩ : ByteArray)] 82 (0, 0))) := ⟨h1_⟩
            have n2_ : Aside0 (w.heap.size ≤ gb212) := ⟨h2_⟩
            have n3_ : Aside0 (w.heap.size ≤ gb212) := ⟨h3_⟩
            have n4_ : Aside0 (gb209 ≠ gb212) := ⟨h4_⟩
            have n5_ : Aside0 (gb212 ≠ gb209) := ⟨h5_⟩
            have n6_ : Aside0 (Below w.heap.size w w26) := ⟨h6_⟩
            clear BK209
            clear HB
            clear h0_ h1_ h2_ h3_ h4_ h5_ h6_
            have BK209 := n0_
            have BK212 := n1_
            have GW212 := n2_
            have GE212 := n3_
            have NB209_212 := n4_
            have NB212_209 := n5_
            have HB := n6_
            clear n0_ n1_ n2_ n3_ n4_ n5_ n6_
            have hHeld := trivial
            refine norm_ (a' := ?_) ?_ ?_
            rotate_left
            ·simp only [putAll, Act.put, List.setIfInBounds_toArray, List.set_cons_zero, List.set_cons_succ]
             rfl
            refine one_ (i := 20) (N := none) (vb 2097151 21) rfl rfl (one_of HT_.out (by kernel_rfl)) (by decide) (fun K hK => ?_)
            have hs27 : w26.cell? ⟨gb212, 0, none⟩ = some (.int .u64 0) := (blk_cell BK212.out 0).trans rfl
            have hfs27 := blk_frozen BK212.out 0
            have hns27_0 := NB209_212.out
            have hms27_0 := NB212_209.out
            have hs28 : w26.cell? ⟨gb212, 1, none⟩ = some (.slice none 0 0) := (blk_cell BK212.out 1).trans rfl
            have hfs28 := blk_frozen BK212.out 1
            have hns28_0 := NB209_212.out
            have hms28_0 := NB212_209.out
            have hs29 : w26.cell? ⟨gb212, 2, none⟩ = some (.int .i64 0) := (blk_cell BK212.out 2).trans rfl
            have hfs29 := blk_frozen BK212.out 2
            have hns29_0 := NB209_212.out
            have hms29_0 := NB212_209.out
            have hs30 : w26.cell? ⟨gb212, 3, none⟩ = some (.string (⟨#[]⟩ : ByteArray)) := (blk_cell BK212.out 3).trans rfl
            have hfs30 := blk_frozen BK212.out 3
            have hns30_0 := NB209_212.out
            have hms30_0 := NB212_209.out
            refine skip_ (w1 := ?_) (by rfl) rfl ?_ ?_
            rotate_left
            ·go_simp
             rfl
            refine hK.out _ _ trivial (fun hHeld => ?_)
            clear hK K
            refine done_ (done_of HT_.out (by kernel_rfl)) ?_
            try go_wp2
            go_loopg [6] kj1 (fun kq v6 w' => ∃ (x6_2 : Int) (x213001_2 : List Int) (u213001 : Value), v6 = .int .i64 x6_2 ∧ Aside0 (forebearref08_ReadCommit.l0 kq a0 (wrap64 (bt a0 8)) x6_2 t210 x213001_2 (wrap64 (t211)) (a0.extract ((ji21) : Int).toNat a0.size) = some (r1, r2, r3, r4, r5)) ∧ Aside0 (kq ≤ kj1) ∧ Aside0 (Kd.R (Kd.int .u64) 64 w' w.heap.size (fun _ => True) u213001 x213001_2) ∧ Aside0 (w'.heap[gb209]? = some (.cells #[.int .u64 0, (.slice none 0 0), .int .i64 0, .string (⟨#[]⟩ : ByteArray)] 82 (0, 0))) ∧ Aside0 (w'.heap[gb212]? = some (.cells #[.int .u64 t210, u213001, .int .i64 (wrap64 (t211)), .string (a0.extract ((ji21) : Int).toNat a0.size)] 82 (0, 0))) ∧ Aside0 (Below w.heap.size w w'))
            case atStart => exact ⟨(0), (([] : List Int)), (.slice none 0 0), (by first | rfl | (simp; done) | (simp [*]; done)), H', ⟨Nat.le_refl _⟩, ⟨by first | exact Kd.R_nil _ _ _ _ _ | exact Kd.N_nil _ _ _ _ _ | exact Kd.V_nil _ _ _ _ _ | exact Kd.Q_nil _ _ _ _ _ | exact Kd.S_nil _ _ _ _ _⟩, ⟨by (with_reducible repeat (first | refine blk_drewN ?_ _ | refine blk_drew ?_ | refine blk_alloc ?_ _)); refine blk_far ?_ NB209_212.out _; (with_reducible repeat (first | refine blk_drewN ?_ _ | refine blk_drew ?_ | refine blk_alloc ?_ _)); refine blk_far ?_ NB209_212.out _; (with_reducible repeat (first | refine blk_drewN ?_ _ | refine blk_drew ?_ | refine blk_alloc ?_ _)); refine blk_far ?_ NB209_212.out _; (with_reducible repeat (first | refine blk_drewN ?_ _ | refine blk_drew ?_ | refine blk_alloc ?_ _)); refine blk_far ?_ NB209_212.out _; (with_reducible repeat (first | refine blk_drewN ?_ _ | refine blk_drew ?_ | refine blk_alloc ?_ _)); exact BK209.out⟩, ⟨by (with_reducible repeat (first | refine blk_drewN ?_ _ | refine blk_drew ?_ | refine blk_alloc ?_ _)); refine blk_put (cs := #[.int .u64 t210, .slice none 0 0, .int .i64 (wrap64 (t211)), .string (⟨#[]⟩ : ByteArray)]) ?_ 3 _ rfl; (with_reducible repeat (first | refine blk_drewN ?_ _ | refine blk_drew ?_ | refine blk_alloc ?_ _)); refine blk_put (cs := #[.int .u64 t210, .slice none 0 0, .int .i64 0, .string (⟨#[]⟩ : ByteArray)]) ?_ 2 _ rfl; (with_reducible repeat (first | refine blk_drewN ?_ _ | refine blk_drew ?_ | refine blk_alloc ?_ _)); refine blk_put (cs := #[.int .u64 t210, .slice none 0 0, .int .i64 0, .string (⟨#[]⟩ : ByteArray)]) ?_ 1 _ rfl; (with_reducible repeat (first | refine blk_drewN ?_ _ | refine blk_drew ?_ | refine blk_alloc ?_ _)); refine blk_put (cs := #[.int .u64 0, .slice none 0 0, .int .i64 0, .string (⟨#[]⟩ : ByteArray)]) ?_ 0 _ rfl; (with_reducible repeat (first | refine blk_drewN ?_ _ | refine blk_drew ?_ | refine blk_alloc ?_ _)); exact BK212.out⟩, ⟨by repeat (first | (with_reducible first | exact HB.out | apply below_alloc | apply pw_below_drewN | apply below_drew1 | refine below_set ?_ GE209.out | refine below_set ?_ GE212.out) | exact HB.out)⟩⟩
            case round =>
             clear H'
             try clear c1
             try clear p1
             try clear q1
             try clear hx1
             try clear qi1
             try clear c2
             try clear p2
             try clear c3
             try clear c4
             try clear c4b0
             try clear c4b1
             try clear c5
             try clear c5b0
             try clear c5b1
             try clear p6
             try clear q6
             try clear hx6
             try clear qi6
             try clear c7
             try clear c7b0
             try clear p8
             try clear q8
             try clear hx8
             try clear qi8
             try clear c9
             try clear c11
             try clear c11b0
             try clear c11b1
             try clear p12
             try clear q12
             try clear hx12
             try clear qi12
             try clear c13
             try clear c13b0
             try clear c13b1
             try clear c14
             try clear c14b0
             try clear c14b1
             try clear c17
             try clear c17b0
             try clear c17b1
             try clear c18
             try clear c18b0
             try clear c18b1
             try clear c19
             try clear c19b0
             try clear c19b1
             try clear c22
             try clear c22b0
             try clear c22b1
             try clear c23
             try clear c23b0
             try clear c23b1
             try clear hcz10_0
             try clear hcz10_1
             try clear hcz10_2
             try clear hcz10_3
             try clear hfz10_0
             try clear hfz10_1
             try clear hfz10_2
             try clear hfz10_3
             try clear p12
             try clear p2
             try clear p6
             try clear p8
             try clear q12
             try clear q6
             try clear q8
             obtain ⟨x6_2, x213001_2, u213001, rfl, HA, HK2, HO_213001, BK209, BK212, HB⟩ := hrel
             cases gk with
             | zero => exact absurd HA.out (by simp [forebearref08_ReadCommit.l0])
             | succ k2 =>
              have H := HA.out
              clear HA
              simp only [forebearref08_ReadCommit.l0] at H
              by_cases c31 : x6_2 < (wrap64 (bt a0 8))
              ·rw [if_pos c31] at H
               have c31b0 : decide (x6_2 < (wrap64 (bt a0 8))) = true := decide_eq_true c31
               clear c31
               obtain ⟨ji32, hji32⟩ : ∃ j_ : Int, (wrap64 (9 + (wrap64 (8 * x6_2)))) = j_ := ⟨_, rfl⟩
               replace H : (if 0 ≤ (ji32) then (if (ji32) ≤ (wrap64 (17 + (wrap64 (8 * x6_2)))) then (if (wrap64 (17 + (wrap64 (8 * x6_2)))) ≤ (a0.size : Int) then ((forebearref07_Value.f k2 (a0.extract ((ji32) : Int).toNat ((wrap64 (17 + (wrap64 (8 * x6_2)))) : Int).toNat)).bind fun t213 => (if x213001_2.length < 17592186044416 then (forebearref08_ReadCommit.l0 k2 a0 (wrap64 (bt a0 8)) (wrap64 (x6_2 + 1)) t210 (x213001_2 ++ [t213]) (wrap64 (t211)) (a0.extract ((ji21) : Int).toNat a0.size)) else (none))) else (none)) else (none)) else (none)) = some (r1, r2, r3, r4, r5) := by first | (rw [hji32] at H; exact H) | (simp only [hji32] at H ⊢; exact H)
               have hji32w : (IntKind.i64.wrap (9 + (wrap64 (8 * x6_2)))) = ji32 := (i64_w _).trans hji32
               by_cases c33 : 0 ≤ (ji32)
               ·rw [if_pos c33] at H
                have c33b0 := eq_true c33
                have c33b1 : decide (0 ≤ (ji32)) = true := decide_eq_true c33
                clear c33
                by_cases c34 : (ji32) ≤ (wrap64 (17 + (wrap64 (8 * x6_2))))
                ·rw [if_pos c34] at H
                 have c34b0 := eq_true c34
                 have c34b1 : decide ((ji32) ≤ (wrap64 (17 + (wrap64 (8 * x6_2))))) = true := decide_eq_true c34
                 by_cases c35 : (wrap64 (17 + (wrap64 (8 * x6_2)))) ≤ (a0.size : Int)
                 ·rw [if_pos c35] at H
                  have c35b0 := eq_true c35
                  have c35b1 : decide ((wrap64 (17 + (wrap64 (8 * x6_2)))) ≤ (a0.size : Int)) = true := decide_eq_true c35
                  replace H := Option.bind_eq_some_iff.mp H
                  obtain ⟨t213, A360, H⟩ := H
                  replace H : (if x213001_2.length < 17592186044416 then (forebearref08_ReadCommit.l0 k2 a0 (wrap64 (bt a0 8)) (wrap64 (x6_2 + 1)) t210 (x213001_2 ++ [t213]) (wrap64 (t211)) (a0.extract ((ji21) : Int).toNat a0.size)) else (none)) = some (r1, r2, r3, r4, r5) := H
                  have A36 := Aside0.mk A360
                  clear A360
                  by_cases c37 : x213001_2.length < 17592186044416
                  ·rw [if_pos c37] at H
                   have LMc37 := Aside0.mk c37
                   clear c37
                   obtain ⟨y214, hy214⟩ : ∃ y_ : List Int, y_ = (x213001_2 ++ [t213]) := ⟨_, rfl⟩
                   replace H : (forebearref08_ReadCommit.l0 k2 a0 (wrap64 (bt a0 8)) (wrap64 (x6_2 + 1)) t210 y214 (wrap64 (t211)) (a0.extract ((ji21) : Int).toNat a0.size)) = some (r1, r2, r3, r4, r5) := by first | (rw [hy214]; with_reducible exact H) | (have H2_ := (Option.bind_some _ _).symm.trans H; rw [hy214]; with_reducible exact H2_) | (have H2_ := (Option.bind_some _ _).symm.trans H; with_reducible exact H2_) | with_reducible exact H | (rw [hy214]; exact H) | exact H
                   have Ny214 := Aside0.mk hy214
                   clear hy214
                   have H' := Aside0.mk H
                   clear H
                   try go_wp2
                   have n0_ := Aside0.mk (Kd.R_drew HO_213001.out)
                   have n1_ := Aside0.mk (blk_drew BK209.out)
                   have n2_ := Aside0.mk (blk_drew BK212.out)
                   have n3_ := Aside0.mk (below_drew1 HB.out)
                   clear HO_213001
                   clear BK209
                   clear BK212
                   clear HB
                   have HO_213001 := n0_
                   have BK209 := n1_
                   have BK212 := n2_
                   have HB := n3_
                   clear n0_ n1_ n2_ n3_
                   refine start_ (n := 15) (S := fun w' => w'.cell? ⟨gb212, 0, none⟩ = some (.int .u64 t210) ∧ w'.cell? ⟨gb212, 1, none⟩ = some (u213001) ∧ w'.cell? ⟨gb212, 2, none⟩ = some (.int .i64 (wrap64 (t211))) ∧ w'.cell? ⟨gb212, 3, none⟩ = some (.string (a0.extract ((ji21) : Int).toNat a0.size))) (ds := [14]) (vb 0 15) (by kernel_rfl) rfl rfl ⟨(blk_cell BK212.out 0).trans rfl, (blk_cell BK212.out 1).trans rfl, (blk_cell BK212.out 2).trans rfl, (blk_cell BK212.out 3).trans rfl⟩ (fun hHeld => ?_); refine with_tabW forebearref08_ReadCommit.tab8 forebearref08_ReadCommit.bits8 (fun HT_ HW_ => ?_)
                   generalize wr.drew = w38 at HO_213001 BK209 BK212 HB hHeld ⊢
                   refine pure_ (i := 0) (N := some 56) (v := ?_) (a' := ?_) (vb 1 15) rfl rfl (any_of HT_.out (by kernel_rfl)) (fun _ _ _ h => h) (Or.inl ⟨by rfl, ?_⟩) ?_ ?_
                   rotate_left
                   ·intro w'
                    go_simp
                    with_reducible rfl
                   rotate_left
                   ·simp only [Act.put, List.setIfInBounds_toArray, List.set_cons_zero, List.set_cons_succ, i64_w, i32_w]
                    rfl
                   refine pure_ (i := 2) (N := some 58) (v := ?_) (a' := ?_) (vb 5 15) rfl rfl (any_of HT_.out (by kernel_rfl)) (fun _ _ _ h => h) (Or.inl ⟨by rfl, ?_⟩) ?_ ?_
                   rotate_left
                   ·intro w'
                    go_simp
                    with_reducible rfl
                   rotate_left
                   ·simp only [Act.put, List.setIfInBounds_toArray, List.set_cons_zero, List.set_cons_succ, i64_w, i32_w]
                    rfl
                   refine pure_ (i := 3) (N := some 59) (v := ?_) (a' := ?_) (vb 13 15) rfl rfl (any_of HT_.out (by kernel_rfl)) (fun _ _ _ h => h) (Or.inl ⟨by rfl, ?_⟩) ?_ ?_
                   rotate_left
                   ·intro w'
                    go_simp
                    with_reducible rfl
                   rotate_left
                   ·simp only [Act.put, List.setIfInBounds_toArray, List.set_cons_zero, List.set_cons_succ, i64_w, i32_w]
                    rfl
                   refine pure_ (i := 4) (N := some 60) (v := ?_) (a' := ?_) (vb 29 15) rfl rfl (any_of HT_.out (by kernel_rfl)) (fun _ _ _ h => h) (Or.inl ⟨by rfl, ?_⟩) ?_ ?_
                   rotate_left
                   ·intro w'
                    go_simp
                    with_reducible rfl
                   rotate_left
                   ·simp only [Act.put, List.setIfInBounds_toArray, List.set_cons_zero, List.set_cons_succ, i64_w, i32_w]
                    rfl
                   refine pure_ (i := 5) (N := some 61) (v := ?_) (a' := ?_) (vb 61 15) rfl rfl (any_of HT_.out (by kernel_rfl)) (fun _ _ _ h => h) (Or.inl ⟨by rfl, ?_⟩) ?_ ?_
                   rotate_left
                   ·intro w'
                    go_simp
                    with_reducible rfl
                   rotate_left
                   ·simp only [Act.put, List.setIfInBounds_toArray, List.set_cons_zero, List.set_cons_succ, i64_w, i32_w]
                    rfl
                   refine pure_ (i := 6) (N := some 62) (v := ?_) (a' := ?_) (vb 125 15) rfl rfl (any_of HT_.out (by kernel_rfl)) (fun _ _ _ h => h) (Or.inl ⟨by rfl, ?_⟩) ?_ ?_
                   rotate_left
                   ·intro w'
                    go_simp
                    with_reducible rfl
                   rotate_left
                   ·simp only [Act.put, List.setIfInBounds_toArray, List.set_cons_zero, List.set_cons_succ, i64_w, i32_w]
                    rfl
                   refine pure_ (i := 7) (N := some 63) (v := ?_) (a' := ?_) (vb 253 15) rfl rfl (any_of HT_.out (by kernel_rfl)) (fun _ _ _ h => h) (Or.inl ⟨by rfl, ?_⟩) ?_ ?_
                   rotate_left
                   ·intro w'
                    go_simp
                    with_reducible rfl
                   rotate_left
                   ·simp only [Act.put, List.setIfInBounds_toArray, List.set_cons_zero, List.set_cons_succ, i64_w, i32_w]
                    rfl
                   refine pure_ (i := 8) (N := some 64) (v := ?_) (a' := ?_) (vb 509 15) rfl rfl (any_of HT_.out (by kernel_rfl)) (fun _ _ _ h => h) (Or.inl ⟨by rfl, ?_⟩) ?_ ?_
                   rotate_left
                   ·intro w'
                    go_simp
                    with_reducible rfl
                   rotate_left
                   ·simp only [Act.put, List.setIfInBounds_toArray, List.set_cons_zero, List.set_cons_succ, i64_w, i32_w]
                    rfl
                   refine pure_ (i := 9) (N := some 65) (v := ?_) (a' := ?_) (vb 1021 15) rfl rfl (any_of HT_.out (by kernel_rfl)) (fun _ _ _ h => h) (Or.inl ⟨by rfl, ?_⟩) ?_ ?_
                   rotate_left
                   ·intro w'
                    go_simp
                    with_reducible rfl
                   rotate_left
                   ·simp only [Act.put, List.setIfInBounds_toArray, List.set_cons_zero, List.set_cons_succ, i64_w, i32_w]
                    rfl
                   refine take_ (i := 1) (N := some 57) (v := ?_) (a' := ?_) (vb 1023 15) rfl rfl (take_ofW HT_.out HW_.out (by kernel_rfl)) (fun _ _ _ h => h) (Or.inl ⟨by rfl, ?_⟩) hHeld ?_ ?_
                   rotate_left
                   ·rintro w' ⟨s0, s1, s2, s3⟩
                    go_simp
                    with_reducible rfl
                   rotate_left
                   ·simp only [Act.put, List.setIfInBounds_toArray, List.set_cons_zero, List.set_cons_succ, i64_w, i32_w]
                    rfl
                   refine one_ (i := 10) (N := some 66) (vb 2047 15) rfl rfl (one_of HT_.out (by kernel_rfl)) (by decide) (fun K hK => ?_)
                   refine goes_ Try.func52 (by kernel_rfl) rfl #[.string (a0.extract ((ji32) : Int).toNat ((wrap64 (17 + (wrap64 (8 * x6_2)))) : Int).toNat)] (by rfl) rfl rfl (by (try simp only [List.map_toArray, List.map_cons, List.map_nil]); first | done | (simp only [hji32]; rfl) | rfl | (simp only [List.length_drop, List.length_take]; rfl)) ?_
                   with_reducible refine (forebearref07_Value.calls k2 (a0.extract ((ji32) : Int).toNat ((wrap64 (17 + (wrap64 (8 * x6_2)))) : Int).toNat) t213 _ A36.out).mono ?_
                   rintro e w' ⟨rfl, ⟨nd, rfl⟩⟩
                   refine ⟨_, rfl, ?_⟩
                   refine hK.out _ _ ⟨(blk_cell BK212.out 0).trans rfl, (blk_cell BK212.out 1).trans rfl, (blk_cell BK212.out 2).trans rfl, (blk_cell BK212.out 3).trans rfl⟩ (fun hHeld => ?_)
                   clear hK K
                   refine norm_ (a' := ?_) ?_ ?_
                   rotate_left
                   ·show Act.put _ (some 66) _ = _
                    simp only [Act.put, List.setIfInBounds_toArray, List.set_cons_zero, List.set_cons_succ, i64_w, i32_w]
                    rfl
                   refine one_ (i := 11) (N := some 67) (vb 4095 15) rfl rfl (one_of HT_.out (by kernel_rfl)) (by decide) (fun K hK => ?_)
                   refine value_ (w1 := ?_) (v := ?_) (by rfl) rfl ?_ ?_
                   rotate_left 2
                   ·go_simp
                    constructor
                    ·rfl
                    ·rfl
                   refine hK.out _ _ ⟨(blk_cell (blk_alloc BK212.out _) 0).trans rfl, (blk_cell (blk_alloc BK212.out _) 1).trans rfl, (blk_cell (blk_alloc BK212.out _) 2).trans rfl, (blk_cell (blk_alloc BK212.out _) 3).trans rfl⟩ (fun hHeld => ?_)
                   clear hK K
                   refine norm_ (a' := ?_) ?_ ?_
                   rotate_left
                   ·show Act.put _ (some 67) _ = _
                    simp only [Act.put, List.setIfInBounds_toArray, List.set_cons_zero, List.set_cons_succ, i64_w, i32_w]
                    rfl
                   refine one_ (i := 12) (N := some 68) (vb 8191 15) rfl rfl (one_of HT_.out (by kernel_rfl)) (by decide) (fun K hK => ?_)
                   refine Kd.R_append_step (Kd.int .u64) (w0 := w) w.heap.size (by rfl) (.tmp 57) (.tmp 67) 80 64 (.int .u64 0) 8 rfl Try.underlying80 info64 rfl (by decide) (by omega) u213001 x213001_2 t213 [.int .u64 t213] (fun _ => True) (fun _ => False) rfl rfl ?aP (fun _ hk => hk.elim) ?aF ?aO ?aB ?aS ?aL ?_
                   (case aP => exact rfl)
                   (case aB => exact (by repeat (first | (with_reducible first | exact HB.out | apply below_alloc | apply pw_below_drewN | apply below_drew1 | refine below_set ?_ GE209.out | refine below_set ?_ GE212.out) | exact HB.out)))
                   (case aF => exact (fun _ _ => trivial))
                   (case aO => exact (by (with_reducible repeat (first | apply Kd.R_alloc | apply Kd.R_drewN | apply Kd.R_drew)); exact HO_213001.out))
                   (case aS => exact (below_size (by repeat (first | (with_reducible first | exact HB.out | apply below_alloc | apply pw_below_drewN | apply below_drew1 | refine below_set ?_ GE209.out | refine below_set ?_ GE212.out) | exact HB.out))))
                   (case aL => have := LMc37.out; omega)
                   intro v215 w39 ho hb hg hat
                   rw [← Ny214.out] at ho
                   have n0_ := Aside0.mk (blk_grown (g := gb209) (o := .cells #[.int .u64 0, .slice none 0 0, .int .i64 0, .string (⟨#[]⟩ : ByteArray)] 82 (0, 0)) (by (with_reducible repeat (first | refine blk_drewN ?_ _ | refine blk_drew ?_ | refine blk_alloc ?_ _)); exact BK209.out) hg (Kd.R_ne HO_213001.out BK209.out (by decide)))
                   have n1_ := Aside0.mk (blk_grown (g := gb212) (o := .cells #[.int .u64 t210, u213001, .int .i64 (wrap64 (t211)), .string (a0.extract ((ji21) : Int).toNat a0.size)] 82 (0, 0)) (by (with_reducible repeat (first | refine blk_drewN ?_ _ | refine blk_drew ?_ | refine blk_alloc ?_ _)); exact BK212.out) hg (Kd.R_ne HO_213001.out BK212.out (by decide)))
                   have n2_ := Aside0.mk (hb)
                   have n3_ := Aside0.mk (ho)
                   clear BK209
                   clear BK212
                   clear HB
                   clear HO_213001
                   have BK209 := n0_
                   have BK212 := n1_
                   have HB := n2_
                   have HO216 := n3_
                   clear n0_ n1_ n2_ n3_
                   clear ho hb hg hat
                   obtain ⟨Ao40, co40, eo40⟩ := Kd.R_slice HO216.out
                   (first | subst eo40 | (injection eo40 with f1_ f2_ f3_; have f4_ := f1_.symm; have f5_ := f3_.symm; clear f1_ f2_ f3_; subst f4_; subst f5_))
                   refine hK.out _ _ ⟨(blk_cell BK212.out 0).trans rfl, (blk_cell BK212.out 1).trans rfl, (blk_cell BK212.out 2).trans rfl, (blk_cell BK212.out 3).trans rfl⟩ (fun hHeld => ?_)
                   clear hK K
                   refine norm_ (a' := ?_) ?_ ?_
                   rotate_left
                   ·show Act.put _ (some 68) _ = _
                    simp only [Act.put, List.setIfInBounds_toArray, List.set_cons_zero, List.set_cons_succ, i64_w, i32_w]
                    rfl
                   refine pure_ (i := 13) (N := some 69) (v := ?_) (a' := ?_) (vb 16383 15) rfl rfl (any_of HT_.out (by kernel_rfl)) (fun _ _ _ h => h) (Or.inl ⟨by rfl, ?_⟩) ?_ ?_
                   rotate_left
                   ·intro w'
                    go_simp
                    with_reducible rfl
                   rotate_left
                   ·simp only [Act.put, List.setIfInBounds_toArray, List.set_cons_zero, List.set_cons_succ, i64_w, i32_w]
                    rfl
                   refine last_ (i := 14) (N := none) (vb 32767 15) rfl rfl (one_of HT_.out (by kernel_rfl)) (by decide) (fun K hK => ?_)
                   have hs41 : w39.cell? ⟨gb212, 1, none⟩ = some (u213001) := (blk_cell BK212.out 1).trans rfl
                   have hfs41 := blk_frozen BK212.out 1
                   have hns41_0 := NB209_212.out
                   have hms41_0 := NB212_209.out
                   refine skip_ (w1 := ?_) (by rfl) rfl ?_ ?_
                   rotate_left
                   ·go_simp
                    rfl
                   refine hK.out _ _ ?_
                   clear hK K
                   refine done_ (done_of HT_.out (by kernel_rfl)) ?_
                   try go_wp2
                   go_roundg k2
                   case measure => have := HJ1.out; have := HK2.out; omega
                   case rel => exact ⟨(wrap64 (x6_2 + 1)), (y214), (.slice Ao40 y214.length co40), (by first | rfl | (simp; done) | (simp [*]; done)), H', ⟨by have := HJ1.out; have := HK2.out; omega⟩, ⟨by (with_reducible repeat (first | apply Kd.R_alloc | apply Kd.R_drewN | apply Kd.R_drew)); exact Kd.R_mono (Kd.R_far (p := ⟨gb212, 1, none⟩) (Kd.R_types HO216.out BK212.out (by decide)) (fun _ hk => hk.2) (.slice Ao40 y214.length co40)) (fun _ hk => trivial)⟩, ⟨by (with_reducible repeat (first | refine blk_drewN ?_ _ | refine blk_drew ?_ | refine blk_alloc ?_ _)); refine blk_far ?_ NB209_212.out _; (with_reducible repeat (first | refine blk_drewN ?_ _ | refine blk_drew ?_ | refine blk_alloc ?_ _)); exact BK209.out⟩, ⟨by (with_reducible repeat (first | refine blk_drewN ?_ _ | refine blk_drew ?_ | refine blk_alloc ?_ _)); refine blk_put (cs := #[.int .u64 t210, u213001, .int .i64 (wrap64 (t211)), .string (a0.extract ((ji21) : Int).toNat a0.size)]) ?_ 1 _ rfl; (with_reducible repeat (first | refine blk_drewN ?_ _ | refine blk_drew ?_ | refine blk_alloc ?_ _)); exact BK212.out⟩, ⟨by repeat (first | (with_reducible first | exact HB.out | apply below_alloc | apply pw_below_drewN | apply below_drew1 | refine below_set ?_ GE209.out | refine below_set ?_ GE212.out) | exact HB.out)⟩⟩
                  ·rw [if_neg c37] at H
                   exact absurd H (by simp)
                 ·rw [if_neg c35] at H
                  exact absurd H (by simp)
                ·rw [if_neg c34] at H
                 exact absurd H (by simp)
               ·rw [if_neg c33] at H
                exact absurd H (by simp)
              ·rw [if_neg c31] at H
               have c31b0 : decide (x6_2 < (wrap64 (bt a0 8))) = false := decide_eq_false c31
               clear c31
               replace H := Option.bind_eq_some_iff.mp H
               obtain ⟨⟨t217, t218⟩, A420, H⟩ := H
               replace H : (if t218 = 0 then (if t217.toList = a0.toList then (some (t210, x213001_2, (wrap64 (t211)), (a0.extract ((ji21) : Int).toNat a0.size), 0)) else (some (0, ([] : List Int), 0, (⟨#[]⟩ : ByteArray), 9))) else (some (0, ([] : List Int), 0, (⟨#[]⟩ : ByteArray), 9))) = some (r1, r2, r3, r4, r5) := H
               have A42 := Aside0.mk A420
               clear A420
               by_cases c43 : t218 = 0
               ·rw [if_pos c43] at H
                have c43b0 : (t218 == 0) = true := beq_iff_eq.mpr c43
                have c43b1 : (t218 != 0) = false := bne_eq_false_iff_eq.mpr c43
                clear c43
                by_cases c44 : t217.toList = a0.toList
                ·rw [if_pos c44] at H
                 have c44b0 : (t217.toList == a0.toList) = true := beq_iff_eq.mpr c44
                 have c44b1 : (t217.toList != a0.toList) = false := bne_eq_false_iff_eq.mpr c44
                 clear c44
                 simp only [Option.some.injEq, Prod.mk.injEq] at H
                 obtain ⟨rfl, rfl, rfl, rfl, rfl⟩ := H
                 have hnb45 := NB212_209.out
                 have hnc45 := NB209_212.out
                 have hcz46_0 : wr.cell? ⟨gb212, 0, none⟩ = some (.int .u64 t210) := (blk_cell BK212.out 0).trans rfl
                 have hcz46_1 : wr.cell? ⟨gb212, 1, none⟩ = some (u213001) := (blk_cell BK212.out 1).trans rfl
                 have hcz46_2 : wr.cell? ⟨gb212, 2, none⟩ = some (.int .i64 (wrap64 (t211))) := (blk_cell BK212.out 2).trans rfl
                 have hcz46_3 : wr.cell? ⟨gb212, 3, none⟩ = some (.string (a0.extract ((ji21) : Int).toNat a0.size)) := (blk_cell BK212.out 3).trans rfl
                 have hfz46_0 := blk_frozen BK212.out 0
                 have hfz46_1 := blk_frozen BK212.out 1
                 have hfz46_2 := blk_frozen BK212.out 2
                 have hfz46_3 := blk_frozen BK212.out 3
                 obtain ⟨Ao47, co47, eo47⟩ := Kd.R_slice HO_213001.out
                 subst eo47
                 go_wp2_with (first | ((with_reducible refine gate_callee (f := 31) rfl ?_); refine goesL_ (some 72) rfl rfl Try.func31 (by kernel_rfl) rfl #[.agg #[.int .u64 t210, .slice Ao47 x213001_2.length co47, .int .i64 (wrap64 (t211)), .string (a0.extract ((ji21) : Int).toNat a0.size)]] rfl (by (try simp only [List.map_toArray, List.map_cons, List.map_nil]); first | done | (simp only [hji21]; rfl) | rfl | (simp only [List.length_drop, List.length_take]; rfl)) ?_; (with_reducible refine (forebearref08_Write.calls k2 t210 _ _ x213001_2 (wrap64 (t211)) (a0.extract ((ji21) : Int).toNat a0.size) t217 t218 _ ?side1 ?side2 A42.out).mono ?_); (case side1 => repeat (first | exact (Kd.R_reads' HO_213001.out).2.2 | (with_reducible refine Kd.C_alloc ?_ _) | (with_reducible refine Kd.C_drewN ?_ _) | (with_reducible refine Kd.C_drew ?_))); (case side2 => exact (Kd.R_reads' HO_213001.out).2.1); rintro e w48 ⟨rfl, hb⟩; refine ⟨_, rfl, ?_⟩; have n0_ := Aside0.mk (Kd.R_below (by (with_reducible repeat (first | apply Kd.R_alloc | apply Kd.R_drewN | apply Kd.R_drew)); exact HO_213001.out) hb); have n1_ := Aside0.mk (blk_below (g := gb209) (o := .cells #[.int .u64 0, .slice none 0 0, .int .i64 0, .string (⟨#[]⟩ : ByteArray)] 82 (0, 0)) (by (with_reducible repeat (first | refine blk_drewN ?_ _ | refine blk_drew ?_ | refine blk_alloc ?_ _)); exact BK209.out) hb); have n2_ := Aside0.mk (blk_below (g := gb212) (o := .cells #[.int .u64 t210, .slice Ao47 x213001_2.length co47, .int .i64 (wrap64 (t211)), .string (a0.extract ((ji21) : Int).toNat a0.size)] 82 (0, 0)) (by (with_reducible repeat (first | refine blk_drewN ?_ _ | refine blk_drew ?_ | refine blk_alloc ?_ _)); exact BK212.out) hb); have n3_ := Aside0.mk (below_step (by repeat (first | (with_reducible first | exact HB.out | apply below_alloc | apply pw_below_drewN | apply below_drew1 | refine below_set ?_ GE209.out | refine below_set ?_ GE212.out) | exact HB.out)) hb); clear HO_213001; clear BK209; clear BK212; clear HB; have HO_213001 := n0_; have BK209 := n1_; have BK212 := n2_; have HB := n3_; clear n0_ n1_ n2_ n3_; (try clear hb); (try clear hb2); (try clear hk); (try clear hi); have hcz49_0 : w48.cell? ⟨gb212, 0, none⟩ = some (.int .u64 t210) := (blk_cell BK212.out 0).trans rfl; have hcz49_1 : w48.cell? ⟨gb212, 1, none⟩ = some (.slice Ao47 x213001_2.length co47) := (blk_cell BK212.out 1).trans rfl; have hcz49_2 : w48.cell? ⟨gb212, 2, none⟩ = some (.int .i64 (wrap64 (t211))) := (blk_cell BK212.out 2).trans rfl; have hcz49_3 : w48.cell? ⟨gb212, 3, none⟩ = some (.string (a0.extract ((ji21) : Int).toNat a0.size)) := (blk_cell BK212.out 3).trans rfl; have hfz49_0 := blk_frozen BK212.out 0; have hfz49_1 := blk_frozen BK212.out 1; have hfz49_2 := blk_frozen BK212.out 2; have hfz49_3 := blk_frozen BK212.out 3; have hcz50_0 : w48.cell? ⟨gb209, 0, none⟩ = some (.int .u64 0) := (blk_cell BK209.out 0).trans rfl; have hcz50_1 : w48.cell? ⟨gb209, 1, none⟩ = some (.slice none 0 0) := (blk_cell BK209.out 1).trans rfl; have hcz50_2 : w48.cell? ⟨gb209, 2, none⟩ = some (.int .i64 0) := (blk_cell BK209.out 2).trans rfl; have hcz50_3 : w48.cell? ⟨gb209, 3, none⟩ = some (.string (⟨#[]⟩ : ByteArray)) := (blk_cell BK209.out 3).trans rfl; have hfz50_0 := blk_frozen BK209.out 0; have hfz50_1 := blk_frozen BK209.out 1; have hfz50_2 := blk_frozen BK209.out 2; have hfz50_3 := blk_frozen BK209.out 3))
                 refine bodyPost_ret (results_ct rfl _ _ gb209 82 #[.int .u64 t210, .slice Ao47 x213001_2.length co47, .int .i64 (wrap64 (t211)), .string (a0.extract ((ji21) : Int).toNat a0.size)] (0, 0) _ rfl (by (with_reducible repeat (first | refine blk_drewN ?_ _ | refine blk_drew ?_ | refine blk_alloc ?_ _)); refine blk_put (cs := #[.int .u64 t210, .slice Ao47 x213001_2.length co47, .int .i64 (wrap64 (t211)), .string (⟨#[]⟩ : ByteArray)]) ?_ 3 _ rfl; (with_reducible repeat (first | refine blk_drewN ?_ _ | refine blk_drew ?_ | refine blk_alloc ?_ _)); refine blk_put (cs := #[.int .u64 t210, .slice Ao47 x213001_2.length co47, .int .i64 0, .string (⟨#[]⟩ : ByteArray)]) ?_ 2 _ rfl; (with_reducible repeat (first | refine blk_drewN ?_ _ | refine blk_drew ?_ | refine blk_alloc ?_ _)); refine blk_put (cs := #[.int .u64 t210, .slice none 0 0, .int .i64 0, .string (⟨#[]⟩ : ByteArray)]) ?_ 1 _ rfl; (with_reducible repeat (first | refine blk_drewN ?_ _ | refine blk_drew ?_ | refine blk_alloc ?_ _)); refine blk_put (cs := #[.int .u64 0, .slice none 0 0, .int .i64 0, .string (⟨#[]⟩ : ByteArray)]) ?_ 0 _ rfl; (with_reducible repeat (first | refine blk_drewN ?_ _ | refine blk_drew ?_ | refine blk_alloc ?_ _)); exact BK209.out) Try.underlying82 rfl (by kernel_rfl)) rfl ?_
                 exact ⟨_, by first | rfl | (simp [errW_none, errW_some] <;> rfl) | (simp only [← hji16, ← hji21]; first | rfl | (simp [errW_none, errW_some] <;> rfl)) | (simp [*, errW_none, errW_some] <;> rfl), by (with_reducible repeat (first | apply Kd.R_alloc | apply Kd.R_drewN | apply Kd.R_drew)); exact Kd.R_mono (Kd.R_far (p := ⟨gb209, 3, none⟩) (Kd.R_far (p := ⟨gb209, 2, none⟩) (Kd.R_far (p := ⟨gb209, 1, none⟩) (Kd.R_far (p := ⟨gb209, 0, none⟩) (Kd.R_types HO_213001.out BK209.out (by decide)) (fun _ hk => hk.2) (.int .u64 t210)) (fun _ hk => hk.2) (.slice Ao47 x213001_2.length co47)) (fun _ hk => hk.2) (.int .i64 (wrap64 (t211)))) (fun _ hk => hk.2) (.string (a0.extract ((ji21) : Int).toNat a0.size))) (fun _ hk => trivial), by repeat (first | (with_reducible first | exact HB.out | apply below_alloc | apply pw_below_drewN | apply below_drew1 | refine below_set ?_ GE209.out | refine below_set ?_ GE212.out) | exact HB.out)⟩
                ·rw [if_neg c44] at H
                 have c44b0 : (t217.toList == a0.toList) = false := beq_eq_false_iff_ne.mpr c44
                 have c44b1 : (t217.toList != a0.toList) = true := bne_iff_ne.mpr c44
                 simp only [Option.some.injEq, Prod.mk.injEq] at H
                 obtain ⟨rfl, rfl, rfl, rfl, rfl⟩ := H
                 have hnb51 := NB212_209.out
                 have hnc51 := NB209_212.out
                 have hcz52_0 : wr.cell? ⟨gb212, 0, none⟩ = some (.int .u64 t210) := (blk_cell BK212.out 0).trans rfl
                 have hcz52_1 : wr.cell? ⟨gb212, 1, none⟩ = some (u213001) := (blk_cell BK212.out 1).trans rfl
                 have hcz52_2 : wr.cell? ⟨gb212, 2, none⟩ = some (.int .i64 (wrap64 (t211))) := (blk_cell BK212.out 2).trans rfl
                 have hcz52_3 : wr.cell? ⟨gb212, 3, none⟩ = some (.string (a0.extract ((ji21) : Int).toNat a0.size)) := (blk_cell BK212.out 3).trans rfl
                 have hfz52_0 := blk_frozen BK212.out 0
                 have hfz52_1 := blk_frozen BK212.out 1
                 have hfz52_2 := blk_frozen BK212.out 2
                 have hfz52_3 := blk_frozen BK212.out 3
                 obtain ⟨Ao53, co53, eo53⟩ := Kd.R_slice HO_213001.out
                 subst eo53
                 go_wp2_with (first | ((with_reducible refine gate_callee (f := 31) rfl ?_); refine goesL_ (some 72) rfl rfl Try.func31 (by kernel_rfl) rfl #[.agg #[.int .u64 t210, .slice Ao53 x213001_2.length co53, .int .i64 (wrap64 (t211)), .string (a0.extract ((ji21) : Int).toNat a0.size)]] rfl (by (try simp only [List.map_toArray, List.map_cons, List.map_nil]); first | done | (simp only [hji21]; rfl) | rfl | (simp only [List.length_drop, List.length_take]; rfl)) ?_; (with_reducible refine (forebearref08_Write.calls k2 t210 _ _ x213001_2 (wrap64 (t211)) (a0.extract ((ji21) : Int).toNat a0.size) t217 t218 _ ?side1 ?side2 A42.out).mono ?_); (case side1 => repeat (first | exact (Kd.R_reads' HO_213001.out).2.2 | (with_reducible refine Kd.C_alloc ?_ _) | (with_reducible refine Kd.C_drewN ?_ _) | (with_reducible refine Kd.C_drew ?_))); (case side2 => exact (Kd.R_reads' HO_213001.out).2.1); rintro e w54 ⟨rfl, hb⟩; refine ⟨_, rfl, ?_⟩; have n0_ := Aside0.mk (Kd.R_below (by (with_reducible repeat (first | apply Kd.R_alloc | apply Kd.R_drewN | apply Kd.R_drew)); exact HO_213001.out) hb); have n1_ := Aside0.mk (blk_below (g := gb209) (o := .cells #[.int .u64 0, .slice none 0 0, .int .i64 0, .string (⟨#[]⟩ : ByteArray)] 82 (0, 0)) (by (with_reducible repeat (first | refine blk_drewN ?_ _ | refine blk_drew ?_ | refine blk_alloc ?_ _)); exact BK209.out) hb); have n2_ := Aside0.mk (blk_below (g := gb212) (o := .cells #[.int .u64 t210, .slice Ao53 x213001_2.length co53, .int .i64 (wrap64 (t211)), .string (a0.extract ((ji21) : Int).toNat a0.size)] 82 (0, 0)) (by (with_reducible repeat (first | refine blk_drewN ?_ _ | refine blk_drew ?_ | refine blk_alloc ?_ _)); exact BK212.out) hb); have n3_ := Aside0.mk (below_step (by repeat (first | (with_reducible first | exact HB.out | apply below_alloc | apply pw_below_drewN | apply below_drew1 | refine below_set ?_ GE209.out | refine below_set ?_ GE212.out) | exact HB.out)) hb); clear HO_213001; clear BK209; clear BK212; clear HB; have HO_213001 := n0_; have BK209 := n1_; have BK212 := n2_; have HB := n3_; clear n0_ n1_ n2_ n3_; (try clear hb); (try clear hb2); (try clear hk); (try clear hi); have hcz55_0 : w54.cell? ⟨gb209, 0, none⟩ = some (.int .u64 0) := (blk_cell BK209.out 0).trans rfl; have hcz55_1 : w54.cell? ⟨gb209, 1, none⟩ = some (.slice none 0 0) := (blk_cell BK209.out 1).trans rfl; have hcz55_2 : w54.cell? ⟨gb209, 2, none⟩ = some (.int .i64 0) := (blk_cell BK209.out 2).trans rfl; have hcz55_3 : w54.cell? ⟨gb209, 3, none⟩ = some (.string (⟨#[]⟩ : ByteArray)) := (blk_cell BK209.out 3).trans rfl; have hfz55_0 := blk_frozen BK209.out 0; have hfz55_1 := blk_frozen BK209.out 1; have hfz55_2 := blk_frozen BK209.out 2; have hfz55_3 := blk_frozen BK209.out 3))
                 refine bodyPost_ret (results_ct rfl _ _ gb209 82 #[.int .u64 0, .slice none 0 0, .int .i64 0, .string (⟨#[]⟩ : ByteArray)] (0, 0) _ rfl (by (with_reducible repeat (first | refine blk_drewN ?_ _ | refine blk_drew ?_ | refine blk_alloc ?_ _)); refine blk_put (cs := #[.int .u64 0, .slice none 0 0, .int .i64 0, .string (⟨#[]⟩ : ByteArray)]) ?_ 3 _ rfl; (with_reducible repeat (first | refine blk_drewN ?_ _ | refine blk_drew ?_ | refine blk_alloc ?_ _)); refine blk_put (cs := #[.int .u64 0, .slice none 0 0, .int .i64 0, .string (⟨#[]⟩ : ByteArray)]) ?_ 2 _ rfl; (with_reducible repeat (first | refine blk_drewN ?_ _ | refine blk_drew ?_ | refine blk_alloc ?_ _)); refine blk_put (cs := #[.int .u64 0, .slice none 0 0, .int .i64 0, .string (⟨#[]⟩ : ByteArray)]) ?_ 1 _ rfl; (with_reducible repeat (first | refine blk_drewN ?_ _ | refine blk_drew ?_ | refine blk_alloc ?_ _)); refine blk_put (cs := #[.int .u64 0, .slice none 0 0, .int .i64 0, .string (⟨#[]⟩ : ByteArray)]) ?_ 0 _ rfl; (with_reducible repeat (first | refine blk_drewN ?_ _ | refine blk_drew ?_ | refine blk_alloc ?_ _)); exact BK209.out) Try.underlying82 rfl (by kernel_rfl)) rfl ?_
                 exact ⟨_, by first | rfl | (simp [errW_none, errW_some] <;> rfl) | (simp only [← hji16, ← hji21]; first | rfl | (simp [errW_none, errW_some] <;> rfl)) | (simp [*, errW_none, errW_some] <;> rfl), by first | exact Kd.R_nil _ _ _ _ _ | exact Kd.N_nil _ _ _ _ _ | exact Kd.V_nil _ _ _ _ _ | exact Kd.Q_nil _ _ _ _ _ | exact Kd.S_nil _ _ _ _ _, by repeat (first | (with_reducible first | exact HB.out | apply below_alloc | apply pw_below_drewN | apply below_drew1 | refine below_set ?_ GE209.out | refine below_set ?_ GE212.out) | exact HB.out)⟩
               ·rw [if_neg c43] at H
                have c43b0 : (t218 == 0) = false := beq_eq_false_iff_ne.mpr c43
                have c43b1 : (t218 != 0) = true := bne_iff_ne.mpr c43
                simp only [Option.some.injEq, Prod.mk.injEq] at H
                obtain ⟨rfl, rfl, rfl, rfl, rfl⟩ := H
                have hnb56 := NB212_209.out
                have hnc56 := NB209_212.out
                have hcz57_0 : wr.cell? ⟨gb212, 0, none⟩ = some (.int .u64 t210) := (blk_cell BK212.out 0).trans rfl
                have hcz57_1 : wr.cell? ⟨gb212, 1, none⟩ = some (u213001) := (blk_cell BK212.out 1).trans rfl
                have hcz57_2 : wr.cell? ⟨gb212, 2, none⟩ = some (.int .i64 (wrap64 (t211))) := (blk_cell BK212.out 2).trans rfl
                have hcz57_3 : wr.cell? ⟨gb212, 3, none⟩ = some (.string (a0.extract ((ji21) : Int).toNat a0.size)) := (blk_cell BK212.out 3).trans rfl
                have hfz57_0 := blk_frozen BK212.out 0
                have hfz57_1 := blk_frozen BK212.out 1
                have hfz57_2 := blk_frozen BK212.out 2
                have hfz57_3 := blk_frozen BK212.out 3
                obtain ⟨Ao58, co58, eo58⟩ := Kd.R_slice HO_213001.out
                subst eo58
                go_wp2_with (first | ((with_reducible refine gate_callee (f := 31) rfl ?_); refine goesL_ (some 72) rfl rfl Try.func31 (by kernel_rfl) rfl #[.agg #[.int .u64 t210, .slice Ao58 x213001_2.length co58, .int .i64 (wrap64 (t211)), .string (a0.extract ((ji21) : Int).toNat a0.size)]] rfl (by (try simp only [List.map_toArray, List.map_cons, List.map_nil]); first | done | (simp only [hji21]; rfl) | rfl | (simp only [List.length_drop, List.length_take]; rfl)) ?_; (with_reducible refine (forebearref08_Write.calls k2 t210 _ _ x213001_2 (wrap64 (t211)) (a0.extract ((ji21) : Int).toNat a0.size) t217 t218 _ ?side1 ?side2 A42.out).mono ?_); (case side1 => repeat (first | exact (Kd.R_reads' HO_213001.out).2.2 | (with_reducible refine Kd.C_alloc ?_ _) | (with_reducible refine Kd.C_drewN ?_ _) | (with_reducible refine Kd.C_drew ?_))); (case side2 => exact (Kd.R_reads' HO_213001.out).2.1); rintro e w59 ⟨rfl, hb⟩; refine ⟨_, rfl, ?_⟩; have n0_ := Aside0.mk (Kd.R_below (by (with_reducible repeat (first | apply Kd.R_alloc | apply Kd.R_drewN | apply Kd.R_drew)); exact HO_213001.out) hb); have n1_ := Aside0.mk (blk_below (g := gb209) (o := .cells #[.int .u64 0, .slice none 0 0, .int .i64 0, .string (⟨#[]⟩ : ByteArray)] 82 (0, 0)) (by (with_reducible repeat (first | refine blk_drewN ?_ _ | refine blk_drew ?_ | refine blk_alloc ?_ _)); exact BK209.out) hb); have n2_ := Aside0.mk (blk_below (g := gb212) (o := .cells #[.int .u64 t210, .slice Ao58 x213001_2.length co58, .int .i64 (wrap64 (t211)), .string (a0.extract ((ji21) : Int).toNat a0.size)] 82 (0, 0)) (by (with_reducible repeat (first | refine blk_drewN ?_ _ | refine blk_drew ?_ | refine blk_alloc ?_ _)); exact BK212.out) hb); have n3_ := Aside0.mk (below_step (by repeat (first | (with_reducible first | exact HB.out | apply below_alloc | apply pw_below_drewN | apply below_drew1 | refine below_set ?_ GE209.out | refine below_set ?_ GE212.out) | exact HB.out)) hb); clear HO_213001; clear BK209; clear BK212; clear HB; have HO_213001 := n0_; have BK209 := n1_; have BK212 := n2_; have HB := n3_; clear n0_ n1_ n2_ n3_; (try clear hb); (try clear hb2); (try clear hk); (try clear hi); have hcz60_0 : w59.cell? ⟨gb209, 0, none⟩ = some (.int .u64 0) := (blk_cell BK209.out 0).trans rfl; have hcz60_1 : w59.cell? ⟨gb209, 1, none⟩ = some (.slice none 0 0) := (blk_cell BK209.out 1).trans rfl; have hcz60_2 : w59.cell? ⟨gb209, 2, none⟩ = some (.int .i64 0) := (blk_cell BK209.out 2).trans rfl; have hcz60_3 : w59.cell? ⟨gb209, 3, none⟩ = some (.string (⟨#[]⟩ : ByteArray)) := (blk_cell BK209.out 3).trans rfl; have hfz60_0 := blk_frozen BK209.out 0; have hfz60_1 := blk_frozen BK209.out 1; have hfz60_2 := blk_frozen BK209.out 2; have hfz60_3 := blk_frozen BK209.out 3))
                refine bodyPost_ret (results_ct rfl _ _ gb209 82 #[.int .u64 0, .slice none 0 0, .int .i64 0, .string (⟨#[]⟩ : ByteArray)] (0, 0) _ rfl (by (with_reducible repeat (first | refine blk_drewN ?_ _ | refine blk_drew ?_ | refine blk_alloc ?_ _)); refine blk_put (cs := #[.int .u64 0, .slice none 0 0, .int .i64 0, .string (⟨#[]⟩ : ByteArray)]) ?_ 3 _ rfl; (with_reducible repeat (first | refine blk_drewN ?_ _ | refine blk_drew ?_ | refine blk_alloc ?_ _)); refine blk_put (cs := #[.int .u64 0, .slice none 0 0, .int .i64 0, .string (⟨#[]⟩ : ByteArray)]) ?_ 2 _ rfl; (with_reducible repeat (first | refine blk_drewN ?_ _ | refine blk_drew ?_ | refine blk_alloc ?_ _)); refine blk_put (cs := #[.int .u64 0, .slice none 0 0, .int .i64 0, .string (⟨#[]⟩ : ByteArray)]) ?_ 1 _ rfl; (with_reducible repeat (first | refine blk_drewN ?_ _ | refine blk_drew ?_ | refine blk_alloc ?_ _)); refine blk_put (cs := #[.int .u64 0, .slice none 0 0, .int .i64 0, .string (⟨#[]⟩ : ByteArray)]) ?_ 0 _ rfl; (with_reducible repeat (first | refine blk_drewN ?_ _ | refine blk_drew ?_ | refine blk_alloc ?_ _)); exact BK209.out) Try.underlying82 rfl (by kernel_rfl)) rfl ?_
                exact ⟨_, by first | rfl | (simp [errW_none, errW_some] <;> rfl) | (simp only [← hji16, ← hji21]; first | rfl | (simp [errW_none, errW_some] <;> rfl)) | (simp [*, errW_none, errW_some] <;> rfl), by first | exact Kd.R_nil _ _ _ _ _ | exact Kd.N_nil _ _ _ _ _ | exact Kd.V_nil _ _ _ _ _ | exact Kd.Q_nil _ _ _ _ _ | exact Kd.S_nil _ _ _ _ _, by repeat (first | (with_reducible first | exact HB.out | apply below_alloc | apply pw_below_drewN | apply below_drew1 | refine below_set ?_ GE209.out | refine below_set ?_ GE212.out) | exact HB.out)⟩
           ·rw [if_neg c23] at H
            exact absurd H (by simp)
          ·rw [if_neg c22] at H
           exact absurd H (by simp)
         ·rw [if_neg c19] at H
          exact absurd H (by simp)
        ·rw [if_neg c18] at H
         exact absurd H (by simp)
       ·rw [if_neg c17] at H
        exact absurd H (by simp)
      ·rw [if_neg c14] at H
       exact absurd H (by simp)
     ·rw [if_neg c13] at H
      exact absurd H (by simp)
    ·rw [if_neg c11] at H
     exact absurd H (by simp)

end Go.Proofs.Ythigjlahanejjaa.MO
