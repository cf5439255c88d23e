/- Laid by this claim's own program (myprint) out of the translation: functions that the laws of the group O reach, each as a plain function, with the proof that the Go code comes to it. No condition. -/
import Derived.Test.YthigjlahanejjaaMOx0
import Derived.Test.YthigjlahanejjaaMOx3
import Derived.Test.YthigjlahanejjaaMOx4
namespace Go.Proofs.Ythigjlahanejjaa.MO
open Go.Proofs.Ythigjlahanejjaa.Opening
open Go.RowKit Go.Proofs.YthigjlahanejjaaW.PrintWords Go.Proofs.YthigjlahanejjaaW.PrintLast Go.Proofs.YthigjlahanejjaaW.PrintMore
attribute [local go_sem] max2_int min2_int max_two min_two max_three min_three max_four min_four   -- for this text's walks alone
set_option linter.unusedVariables false
set_option linter.unusedSimpArgs false

/-! ### forebearlaw08_Commit: function 32 -/
def forebearlaw08_Commit.l0 : Nat → Int → Int → List Int → Int → ByteArray → Int → List Int → Int → ByteArray → Option (Int × List Int × Int × ByteArray)
  | 0, _, _, _, _, _, _, _, _, _ => none
  | k + 1, x4, x203000, x203001, x203002, x203003, x205000, x205001, x205002, x205003 => if x4 < (x203001.length : Int) then (if 0 ≤ x4 then (if x205001.length < 17592186044416 then (forebearlaw08_Commit.l0 k (wrap64 (x4 + 1)) x203000 x203001 x203002 x203003 x205000 (x205001 ++ [rd x203001 x4]) x205002 x205003) else (none)) else (none)) else (some (x205000, x205001, x205002, x205003))
def forebearlaw08_Commit.f (k : Nat) (a0_0 : Int) (l0_1 : List Int) (a0_2 : Int) (a0_3 : ByteArray) : Option (Int × List Int × Int × ByteArray) := forebearlaw08_Commit.l0 k 0 a0_0 l0_1 a0_2 a0_3 a0_0 ([] : List Int) a0_2 a0_3
theorem forebearlaw08_Commit.mono_l : ∀ k, (∀ y0 y1 y2 y3 y4 y5 y6 y7 y8, LeO (forebearlaw08_Commit.l0 k y0 y1 y2 y3 y4 y5 y6 y7 y8) (forebearlaw08_Commit.l0 (k + 1) y0 y1 y2 y3 y4 y5 y6 y7 y8))
  | 0 => fun _ _ _ _ _ _ _ _ _ r h => by simp [forebearlaw08_Commit.l0] at h
  | k + 1 => by
    have ih0 := forebearlaw08_Commit.mono_l k
    · intro y0 y1 y2 y3 y4 y5 y6 y7 y8
      unfold forebearlaw08_Commit.l0
      repeat' first
      | (with_reducible exact ih0 _ _ _ _ _ _ _ _ _)
      | (with_reducible exact LeO.refl _)
      | (with_reducible exact LeO.none _)
      | (with_reducible refine LeO.ite ?_ ?_)
      | (with_reducible refine LeO.bind ?_ (fun _ => ?_))
      | exact ih0 _ _ _ _ _ _ _ _ _
      | exact LeO.none _
      | refine LeO.ite ?_ ?_
      | refine LeO.bind ?_ (fun _ => ?_)
theorem forebearlaw08_Commit.mono : ∀ a0 a1 a2 a3 k, LeO (forebearlaw08_Commit.f k a0 a1 a2 a3) (forebearlaw08_Commit.f (k + 1) a0 a1 a2 a3) := by
  intro a0 a1 a2 a3 k
  have ih0 := forebearlaw08_Commit.mono_l k
  unfold forebearlaw08_Commit.f
  repeat' first
      | (with_reducible exact ih0 _ _ _ _ _ _ _ _ _)
      | (with_reducible exact LeO.refl _)
      | (with_reducible exact LeO.none _)
      | (with_reducible refine LeO.ite ?_ ?_)
      | (with_reducible refine LeO.bind ?_ (fun _ => ?_))
      | exact ih0 _ _ _ _ _ _ _ _ _
      | exact LeO.none _
      | refine LeO.ite ?_ ?_
      | refine LeO.bind ?_ (fun _ => ?_)
def forebearlaw08_Commit.T5 : Bool × List (List Nat × List Nat) := (true, [([], []), ([0], [0]), ([], []), ([2], [2]), ([], []), ([3, 4], [3, 4]), ([5], [5]), ([6], [6]), ([1, 7], [1, 7]), ([0, 1, 2, 3, 4, 5, 6, 7, 8], []), ([9, 8, 8, 0, 1, 2, 3, 4, 5, 6, 7, 8], [8, 9])])
def forebearlaw08_Commit.B5 : List Nat := [0, 1, 0, 4, 0, 28, 60, 124, 255, 511, 1023]
theorem forebearlaw08_Commit.tab5 : rtab .any (opsOf Try.f32 5) = forebearlaw08_Commit.T5 := by kernel_rfl
theorem forebearlaw08_Commit.bits5 : waitsOk forebearlaw08_Commit.T5.2 forebearlaw08_Commit.B5 = true := by kernel_rfl
set_option maxHeartbeats 8000000 in
set_option maxRecDepth 100000 in
theorem forebearlaw08_Commit.calls (k : Nat) (a0_0 : Int) (A0_1 : Option Addr) (c0_1 : Nat) (l0_1 : List Int) (a0_2 : Int) (a0_3 : ByteArray) (r1 : Int) (r2 : List Int) (r3 : Int) (r4 : ByteArray) (w : World) (hr0_1 : Kd.C (Kd.int .u64) w A0_1 l0_1.length l0_1) (hc0_1 : l0_1.length ≤ c0_1) (h : forebearlaw08_Commit.f k a0_0 l0_1 a0_2 a0_3 = some (r1, r2, r3, r4)) :
    Calls Try.prog 32 #[.agg #[.int .u64 a0_0, .slice A0_1 l0_1.length c0_1, .int .i64 a0_2, .string a0_3]] w fun e w' => ∃ v1_ : Value, e = .returned (.agg #[.int .u64 r1, v1_, .int .i64 r3, .string r4]) ∧ Kd.R (Kd.int .u64) 64 w' w.heap.size (fun _ => True) v1_ r2 ∧ Below w.heap.size w w' := by
  have hu77 := Try.underlying77
  have hu82 := Try.underlying82
  have HR0_1 := Aside0.mk hr0_1
  have HC0_1 := Aside0.mk hc0_1
  clear hr0_1 hc0_1
  have HB := Aside0.mk (Below.refl w.heap.size w)
  have H : (forebearlaw08_Commit.l0 k 0 a0_0 l0_1 a0_2 a0_3 a0_0 ([] : List Int) a0_2 a0_3) = some (r1, r2, r3, r4) := h
  clear h
  have H' := Aside0.mk H
  clear H
  go_enter Try.func32, Try.ntmps32
  go_wp2_with (first | ((with_reducible refine gate_dst (N := 1) rfl ?_); refine box_event ?hg (N := 1) ?hd (cs := #[.int .u64 a0_0, .slice A0_1 l0_1.length c0_1, .int .i64 a0_2, .string a0_3]) (t := 77) ?hr ?_; (case hd => rfl); (case hg => rfl); (case hr => first | (go_simp; done) | (go_simp; rfl)); intro gb202 hg w2 hbox hb; have n0_ := Aside0.mk (below_step (by repeat (first | (with_reducible first | exact HB.out | apply below_alloc | apply pw_below_drewN | apply below_drew1) | exact HB.out)) hb); have n1_ := Aside0.mk (hbox); have n2_ := Aside0.mk ((by rw [hg]; exact (below_size (by repeat (first | (with_reducible first | exact HB.out | apply below_alloc | apply pw_below_drewN | apply below_drew1) | exact HB.out))) : w.heap.size ≤ gb202)); have n3_ := Aside0.mk ((by rw [hg]; exact (below_size (by repeat (first | (with_reducible first | exact HB.out | apply below_alloc | apply pw_below_drewN | apply below_drew1) | exact HB.out))) : w.heap.size ≤ gb202)); clear HB; have HB := n0_; have BK202 := n1_; have GW202 := n2_; have GE202 := n3_; clear n0_ n1_ n2_ n3_; clear hb hbox hg) | ((with_reducible refine gate_dst (N := 2) rfl ?_); refine box_event ?hg (N := 2) ?hd (cs := #[.int .u64 0, .slice none 0 0, .int .i64 0, .string (⟨#[]⟩ : ByteArray)]) (t := 82) ?hr ?_; (case hd => rfl); (case hg => rfl); (case hr => first | (go_simp; done) | (go_simp; rfl)); intro gb203 hg w3 hbox hb; have n0_ := Aside0.mk (blk_below (g := gb202) (o := .cells #[.int .u64 a0_0, .slice A0_1 l0_1.length c0_1, .int .i64 a0_2, .string a0_3] 77 (0, 0)) (by (with_reducible repeat (first | refine blk_drewN ?_ _ | refine blk_drew ?_ | refine blk_alloc ?_ _)); exact BK202.out) hb); have n1_ := Aside0.mk (below_step (by repeat (first | (with_reducible first | exact HB.out | apply below_alloc | apply pw_below_drewN | apply below_drew1 | refine below_set ?_ GE202.out) | exact HB.out)) hb); have n2_ := Aside0.mk (hbox); have n3_ := Aside0.mk ((by rw [hg]; exact (below_size (by repeat (first | (with_reducible first | exact HB.out | apply below_alloc | apply pw_below_drewN | apply below_drew1 | refine below_set ?_ GE202.out) | exact HB.out))) : w.heap.size ≤ gb203)); have n4_ := Aside0.mk ((by rw [hg]; exact (below_size (by repeat (first | (with_reducible first | exact HB.out | apply below_alloc | apply pw_below_drewN | apply below_drew1 | refine below_set ?_ GE202.out) | exact HB.out))) : w.heap.size ≤ gb203)); have n5_ := Aside0.mk ((by rw [hg]; exact Nat.ne_of_lt (blk_lt (g := gb202) (o := .cells #[.int .u64 a0_0, .slice A0_1 l0_1.length c0_1, .int .i64 a0_2, .string a0_3] 77 (0, 0)) (by (with_reducible repeat (first | refine blk_drewN ?_ _ | refine blk_drew ?_ | refine blk_alloc ?_ _)); exact BK202.out)) : gb202 ≠ gb203)); have n6_ := Aside0.mk ((by rw [hg]; exact Nat.ne_of_gt (blk_lt (g := gb202) (o := .cells #[.int .u64 a0_0, .slice A0_1 l0_1.length c0_1, .int .i64 a0_2, .string a0_3] 77 (0, 0)) (by (with_reducible repeat (first | refine blk_drewN ?_ _ | refine blk_drew ?_ | refine blk_alloc ?_ _)); exact BK202.out)) : gb203 ≠ gb202)); clear BK202; clear HB; have BK202 := n0_; have HB := n1_; have BK203 := n2_; have GW203 := n3_; have GE203 := n4_; have NB202_203 := n5_; have NB203_202 := n6_; clear n0_ n1_ n2_ n3_ n4_ n5_ n6_; clear hb hbox hg; have hnb4 := NB202_203.out; have hnc4 := NB203_202.out; have hcz5_0 : w3.cell? ⟨gb202, 0, none⟩ = some (.int .u64 a0_0) := (blk_cell BK202.out 0).trans rfl; have hcz5_1 : w3.cell? ⟨gb202, 1, none⟩ = some (.slice A0_1 l0_1.length c0_1) := (blk_cell BK202.out 1).trans rfl; have hcz5_2 : w3.cell? ⟨gb202, 2, none⟩ = some (.int .i64 a0_2) := (blk_cell BK202.out 2).trans rfl; have hcz5_3 : w3.cell? ⟨gb202, 3, none⟩ = some (.string a0_3) := (blk_cell BK202.out 3).trans rfl; have hfz5_0 := blk_frozen BK202.out 0; have hfz5_1 := blk_frozen BK202.out 1; have hfz5_2 := blk_frozen BK202.out 2; have hfz5_3 := blk_frozen BK202.out 3) | ((with_reducible refine gate_dst (N := 3) rfl ?_); refine box_event ?hg (N := 3) ?hd (cs := #[.int .u64 0, .slice none 0 0, .int .i64 0, .string (⟨#[]⟩ : ByteArray)]) (t := 82) ?hr ?_; (case hd => rfl); (case hg => rfl); (case hr => first | (go_simp; done) | (go_simp; rfl)); intro gb204 hg w6 hbox hb; have n0_ := Aside0.mk (blk_below (g := gb202) (o := .cells #[.int .u64 a0_0, .slice A0_1 l0_1.length c0_1, .int .i64 a0_2, .string a0_3] 77 (0, 0)) (by (with_reducible repeat (first | refine blk_drewN ?_ _ | refine blk_drew ?_ | refine blk_alloc ?_ _)); exact BK202.out) hb); have n1_ := Aside0.mk (blk_below (g := gb203) (o := .cells #[.int .u64 0, .slice none 0 0, .int .i64 0, .string (⟨#[]⟩ : ByteArray)] 82 (0, 0)) (by (with_reducible repeat (first | refine blk_drewN ?_ _ | refine blk_drew ?_ | refine blk_alloc ?_ _)); exact BK203.out) hb); have n2_ := Aside0.mk (below_step (by repeat (first | (with_reducible first | exact HB.out | apply below_alloc | apply pw_below_drewN | apply below_drew1 | refine below_set ?_ GE202.out | refine below_set ?_ GE203.out) | exact HB.out)) hb); have n3_ := Aside0.mk (hbox); have n4_ := Aside0.mk ((by rw [hg]; exact (below_size (by repeat (first | (with_reducible first | exact HB.out | apply below_alloc | apply pw_below_drewN | apply below_drew1 | refine below_set ?_ GE202.out | refine below_set ?_ GE203.out) | exact HB.out))) : w.heap.size ≤ gb204)); have n5_ := Aside0.mk ((by rw [hg]; exact (below_size (by repeat (first | (with_reducible first | exact HB.out | apply below_alloc | apply pw_below_drewN | apply below_drew1 | refine below_set ?_ GE202.out | refine below_set ?_ GE203.out) | exact HB.out))) : w.heap.size ≤ gb204)); have n6_ := Aside0.mk ((by rw [hg]; exact Nat.ne_of_lt (blk_lt (g := gb202) (o := .cells #[.int .u64 a0_0, .slice A0_1 l0_1.length c0_1, .int .i64 a0_2, .string a0_3] 77 (0, 0)) (by (with_reducible repeat (first | refine blk_drewN ?_ _ | refine blk_drew ?_ | refine blk_alloc ?_ _)); exact BK202.out)) : gb202 ≠ gb204)); have n7_ := Aside0.mk ((by rw [hg]; exact Nat.ne_of_gt (blk_lt (g := gb202) (o := .cells #[.int .u64 a0_0, .slice A0_1 l0_1.length c0_1, .int .i64 a0_2, .string a0_3] 77 (0, 0)) (by (with_reducible repeat (first | refine blk_drewN ?_ _ | refine blk_drew ?_ | refine blk_alloc ?_ _)); exact BK202.out)) : gb204 ≠ gb202)); have n8_ := Aside0.mk ((by rw [hg]; exact Nat.ne_of_lt (blk_lt (g := gb203) (o := .cells #[.int .u64 0, .slice none 0 0, .int .i64 0, .string (⟨#[]⟩ : ByteArray)] 82 (0, 0)) (by (with_reducible repeat (first | refine blk_drewN ?_ _ | refine blk_drew ?_ | refine blk_alloc ?_ _)); exact BK203.out)) : gb203 ≠ gb204)); have n9_ := Aside0.mk ((by rw [hg]; exact Nat.ne_of_gt (blk_lt (g := gb203) (o := .cells #[.int .u64 0, .slice none 0 0, .int .i64 0, .string (⟨#[]⟩ : ByteArray)] 82 (0, 0)) (by (with_reducible repeat (first | refine blk_drewN ?_ _ | refine blk_drew ?_ | refine blk_alloc ?_ _)); exact BK203.out)) : gb204 ≠ gb203)); clear BK202; clear BK203; clear HB; have BK202 := n0_; have BK203 := n1_; have HB := n2_; have BK204 := n3_; have GW204 := n4_; have GE204 := n5_; have NB202_204 := n6_; have NB204_202 := n7_; have NB203_204 := n8_; have NB204_203 := n9_; clear n0_ n1_ n2_ n3_ n4_ n5_ n6_ n7_ n8_ n9_; clear hb hbox hg; have hnb7 := NB204_202.out; have hnc7 := NB202_204.out; have hnb8 := NB204_203.out; have hnc8 := NB203_204.out; have hcz9_0 : w6.cell? ⟨gb204, 0, none⟩ = some (.int .u64 0) := (blk_cell BK204.out 0).trans rfl; have hcz9_1 : w6.cell? ⟨gb204, 1, none⟩ = some (.slice none 0 0) := (blk_cell BK204.out 1).trans rfl; have hcz9_2 : w6.cell? ⟨gb204, 2, none⟩ = some (.int .i64 0) := (blk_cell BK204.out 2).trans rfl; have hcz9_3 : w6.cell? ⟨gb204, 3, none⟩ = some (.string (⟨#[]⟩ : ByteArray)) := (blk_cell BK204.out 3).trans rfl; have hfz9_0 := blk_frozen BK204.out 0; have hfz9_1 := blk_frozen BK204.out 1; have hfz9_2 := blk_frozen BK204.out 2; have hfz9_3 := blk_frozen BK204.out 3))
  go_loopg [4] k (fun kq v4 w' => ∃ (x4_1 : Int) (x205001_1 : List Int) (u205001 : Value), v4 = .int .i64 x4_1 ∧ Aside0 (forebearlaw08_Commit.l0 kq x4_1 a0_0 l0_1 a0_2 a0_3 a0_0 x205001_1 a0_2 a0_3 = some (r1, r2, r3, r4)) ∧ Aside0 (kq ≤ k) ∧ Aside0 (Kd.R (Kd.int .u64) 64 w' w.heap.size (fun _ => True) u205001 x205001_1) ∧ Aside0 (w'.heap[gb202]? = some (.cells #[.int .u64 a0_0, (.slice A0_1 l0_1.length c0_1), .int .i64 a0_2, .string a0_3] 77 (0, 0))) ∧ Aside0 (w'.heap[gb203]? = some (.cells #[.int .u64 0, (.slice none 0 0), .int .i64 0, .string (⟨#[]⟩ : ByteArray)] 82 (0, 0))) ∧ Aside0 (w'.heap[gb204]? = some (.cells #[.int .u64 a0_0, u205001, .int .i64 a0_2, .string a0_3] 82 (0, 0))) ∧ Aside0 (Below w.heap.size w w'))
  case atStart => exact ⟨(0), (([] : List Int)), (.slice none 0 0), (by first | rfl | (simp; done) | (simp [*]; done)), H', ⟨Nat.le_refl _⟩, ⟨by first | exact Kd.R_nil _ _ _ _ _ | exact Kd.N_nil _ _ _ _ _ | exact Kd.V_nil _ _ _ _ _ | exact Kd.Q_nil _ _ _ _ _ | exact Kd.S_nil _ _ _ _ _⟩, ⟨by (with_reducible repeat (first | refine blk_drewN ?_ _ | refine blk_drew ?_ | refine blk_alloc ?_ _)); refine blk_far ?_ NB202_204.out _; (with_reducible repeat (first | refine blk_drewN ?_ _ | refine blk_drew ?_ | refine blk_alloc ?_ _)); refine blk_far ?_ NB202_204.out _; (with_reducible repeat (first | refine blk_drewN ?_ _ | refine blk_drew ?_ | refine blk_alloc ?_ _)); refine blk_far ?_ NB202_204.out _; (with_reducible repeat (first | refine blk_drewN ?_ _ | refine blk_drew ?_ | refine blk_alloc ?_ _)); refine blk_far ?_ NB202_204.out _; (with_reducible repeat (first | refine blk_drewN ?_ _ | refine blk_drew ?_ | refine blk_alloc ?_ _)); exact BK202.out⟩, ⟨by (with_reducible repeat (first | refine blk_drewN ?_ _ | refine blk_drew ?_ | refine blk_alloc ?_ _)); refine blk_far ?_ NB203_204.out _; (with_reducible repeat (first | refine blk_drewN ?_ _ | refine blk_drew ?_ | refine blk_alloc ?_ _)); refine blk_far ?_ NB203_204.out _; (with_reducible repeat (first | refine blk_drewN ?_ _ | refine blk_drew ?_ | refine blk_alloc ?_ _)); refine blk_far ?_ NB203_204.out _; (with_reducible repeat (first | refine blk_drewN ?_ _ | refine blk_drew ?_ | refine blk_alloc ?_ _)); refine blk_far ?_ NB203_204.out _; (with_reducible repeat (first | refine blk_drewN ?_ _ | refine blk_drew ?_ | refine blk_alloc ?_ _)); exact BK203.out⟩, ⟨by (with_reducible repeat (first | refine blk_drewN ?_ _ | refine blk_drew ?_ | refine blk_alloc ?_ _)); refine blk_put (cs := #[.int .u64 a0_0, .slice none 0 0, .int .i64 a0_2, .string (⟨#[]⟩ : ByteArray)]) ?_ 3 _ rfl; (with_reducible repeat (first | refine blk_drewN ?_ _ | refine blk_drew ?_ | refine blk_alloc ?_ _)); refine blk_put (cs := #[.int .u64 a0_0, .slice none 0 0, .int .i64 0, .string (⟨#[]⟩ : ByteArray)]) ?_ 2 _ rfl; (with_reducible repeat (first | refine blk_drewN ?_ _ | refine blk_drew ?_ | refine blk_alloc ?_ _)); refine blk_put (cs := #[.int .u64 a0_0, .slice none 0 0, .int .i64 0, .string (⟨#[]⟩ : ByteArray)]) ?_ 1 _ rfl; (with_reducible repeat (first | refine blk_drewN ?_ _ | refine blk_drew ?_ | refine blk_alloc ?_ _)); refine blk_put (cs := #[.int .u64 0, .slice none 0 0, .int .i64 0, .string (⟨#[]⟩ : ByteArray)]) ?_ 0 _ rfl; (with_reducible repeat (first | refine blk_drewN ?_ _ | refine blk_drew ?_ | refine blk_alloc ?_ _)); exact BK204.out⟩, ⟨by repeat (first | (with_reducible first | exact HB.out | apply below_alloc | apply pw_below_drewN | apply below_drew1 | refine below_set ?_ GE202.out | refine below_set ?_ GE203.out | refine below_set ?_ GE204.out) | exact HB.out)⟩⟩
  case round =>
    clear H'
    try clear p2
    try clear c3
    try clear c4
    try clear c7
    try clear c8
    try clear hcz5_0
    try clear hcz5_1
    try clear hcz5_2
    try clear hcz5_3
    try clear hcz9_0
    try clear hcz9_1
    try clear hcz9_2
    try clear hcz9_3
    try clear hfz5_0
    try clear hfz5_1
    try clear hfz5_2
    try clear hfz5_3
    try clear hfz9_0
    try clear hfz9_1
    try clear hfz9_2
    try clear hfz9_3
    obtain ⟨x4_1, x205001_1, u205001, rfl, HA, HK1, HO_205001, BK202, BK203, BK204, HB⟩ := hrel
    cases gk with
    | zero => exact absurd HA.out (by simp [forebearlaw08_Commit.l0])
    | succ k1 =>
      have H := HA.out
      clear HA
      simp only [forebearlaw08_Commit.l0] at H
      by_cases c10 : x4_1 < (l0_1.length : Int)
      · rw [if_pos c10] at H
        have c10b0 : decide (x4_1 < (l0_1.length : Int)) = true := decide_eq_true c10
        clear c10
        by_cases c11 : 0 ≤ x4_1
        · rw [if_pos c11] at H
          have c11b0 : decide (0 ≤ x4_1) = true := decide_eq_true c11
          clear c11
          by_cases c12 : x205001_1.length < 17592186044416
          · rw [if_pos c12] at H
            have LMc12 := Aside0.mk c12
            clear c12
            obtain ⟨y206, hy206⟩ : ∃ y_ : List Int, y_ = (x205001_1 ++ [rd l0_1 x4_1]) := ⟨_, rfl⟩
            replace H : (forebearlaw08_Commit.l0 k1 (wrap64 (x4_1 + 1)) a0_0 l0_1 a0_2 a0_3 a0_0 y206 a0_2 a0_3) = some (r1, r2, r3, r4) := by first | (rw [hy206]; with_reducible exact H) | (have H2_ := (Option.bind_some _ _).symm.trans H; rw [hy206]; with_reducible exact H2_) | (have H2_ := (Option.bind_some _ _).symm.trans H; with_reducible exact H2_) | with_reducible exact H | (rw [hy206]; exact H) | exact H
            have Ny206 := Aside0.mk hy206
            clear hy206
            have H' := Aside0.mk H
            clear H
            have hnb13 := NB202_203.out
            have hnc13 := NB203_202.out
            have hnb14 := NB202_204.out
            have hnc14 := NB204_202.out
            have hcz15_0 : wr.cell? ⟨gb202, 0, none⟩ = some (.int .u64 a0_0) := (blk_cell BK202.out 0).trans rfl
            have hcz15_1 : wr.cell? ⟨gb202, 1, none⟩ = some (.slice A0_1 l0_1.length c0_1) := (blk_cell BK202.out 1).trans rfl
            have hcz15_2 : wr.cell? ⟨gb202, 2, none⟩ = some (.int .i64 a0_2) := (blk_cell BK202.out 2).trans rfl
            have hcz15_3 : wr.cell? ⟨gb202, 3, none⟩ = some (.string a0_3) := (blk_cell BK202.out 3).trans rfl
            have hfz15_0 := blk_frozen BK202.out 0
            have hfz15_1 := blk_frozen BK202.out 1
            have hfz15_2 := blk_frozen BK202.out 2
            have hfz15_3 := blk_frozen BK202.out 3
            try go_wp2
            have n0_ := Aside0.mk (Kd.R_drew HO_205001.out)
            have n1_ := Aside0.mk (blk_drew BK202.out)
            have n2_ := Aside0.mk (blk_drew BK203.out)
            have n3_ := Aside0.mk (blk_drew BK204.out)
            have n4_ := Aside0.mk (below_drew1 HB.out)
            clear HO_205001
            clear BK202
            clear BK203
            clear BK204
            clear HB
            have HO_205001 := n0_
            have BK202 := n1_
            have BK203 := n2_
            have BK204 := n3_
            have HB := n4_
            clear n0_ n1_ n2_ n3_ n4_
            have p205 : 0 ≤ (x4_1 : Int) := of_decide_eq_true (by first | (with_reducible assumption) | assumption)
            have q205 : x4_1 < (l0_1.length : Int) := of_decide_eq_true (by first | (with_reducible assumption) | assumption)
            obtain ⟨ad205, e205, hx205_0⟩ := Kd.at_int HR0_1.out x4_1 p205 q205
            have hw205_0 := hx205_0
            cases e205
            try replace hx205_0 := (HB.out.cell (World.block_lt_of_cell? w _ hx205_0)).trans hx205_0
            replace p205 := eq_true p205
            replace q205 := eq_true q205
            refine start_ (n := 11) (S := fun w' => w'.cell? ⟨gb204, 0, none⟩ = some (.int .u64 a0_0) ∧ w'.cell? ⟨gb204, 1, none⟩ = some (u205001) ∧ w'.cell? ⟨gb204, 2, none⟩ = some (.int .i64 a0_2) ∧ w'.cell? ⟨gb204, 3, none⟩ = some (.string a0_3) ∧ w'.cell? ⟨gb202, 0, none⟩ = some (.int .u64 a0_0) ∧ w'.cell? ⟨gb202, 1, none⟩ = some (.slice (some ad205) l0_1.length c0_1) ∧ w'.cell? ⟨gb202, 2, none⟩ = some (.int .i64 a0_2) ∧ w'.cell? ⟨gb202, 3, none⟩ = some (.string a0_3) ∧ w'.cell? (ad205.add (x4_1).toNat) = some (.int .u64 (rd l0_1 x4_1))) (ds := [10]) #[false, false, false, false, false, false, false, false, false, false, false] (by kernel_rfl) rfl rfl ⟨(blk_cell BK204.out 0).trans rfl, (blk_cell BK204.out 1).trans rfl, (blk_cell BK204.out 2).trans rfl, (blk_cell BK204.out 3).trans rfl, (blk_cell BK202.out 0).trans rfl, (blk_cell BK202.out 1).trans rfl, (blk_cell BK202.out 2).trans rfl, (blk_cell BK202.out 3).trans rfl, ((HB.out.cell (World.block_lt_of_cell? w _ hw205_0)).trans hw205_0)⟩ (fun hHeld => ?_); refine with_tabW forebearlaw08_Commit.tab5 forebearlaw08_Commit.bits5 (fun HT_ HW_ => ?_)
            generalize wr.drew = w16 at HO_205001 BK202 BK203 BK204 HB hx205_0 hHeld ⊢
            refine pure_ (i := 0) (N := some 19) (v := ?_) (a' := ?_) #[true, false, false, false, false, false, false, false, false, false, false] rfl rfl (any_of HT_.out (by kernel_rfl)) (fun _ _ _ h => h) (Or.inl ⟨by rfl, ?_⟩) ?_ ?_
            rotate_left
            · intro w'
              go_simp
              with_reducible rfl
            rotate_left
            · simp only [Act.put, List.setIfInBounds_toArray, List.set_cons_zero, List.set_cons_succ, i64_w, i32_w]
              rfl
            refine pure_ (i := 2) (N := some 21) (v := ?_) (a' := ?_) #[true, false, true, false, false, false, false, false, false, false, false] rfl rfl (any_of HT_.out (by kernel_rfl)) (fun _ _ _ h => h) (Or.inl ⟨by rfl, ?_⟩) ?_ ?_
            rotate_left
            · intro w'
              go_simp
              with_reducible rfl
            rotate_left
            · simp only [Act.put, List.setIfInBounds_toArray, List.set_cons_zero, List.set_cons_succ, i64_w, i32_w]
              rfl
            refine pure_ (i := 4) (N := some 23) (v := ?_) (a' := ?_) #[true, false, true, false, true, false, false, false, false, false, false] rfl rfl (any_of HT_.out (by kernel_rfl)) (fun _ _ _ h => h) (Or.inl ⟨by rfl, ?_⟩) ?_ ?_
            rotate_left
            · intro w'
              go_simp
              with_reducible rfl
            rotate_left
            · simp only [Act.put, List.setIfInBounds_toArray, List.set_cons_zero, List.set_cons_succ, i64_w, i32_w]
              rfl
            refine take_ (i := 1) (N := some 20) (v := ?_) (a' := ?_) #[true, true, true, false, true, false, false, false, false, false, false] rfl rfl (take_ofW HT_.out HW_.out (by kernel_rfl)) (fun _ _ _ h => h) (Or.inl ⟨by rfl, ?_⟩) hHeld ?_ ?_
            rotate_left
            · rintro w' ⟨s0, s1, s2, s3, s4, s5, s6, s7, s8⟩
              go_simp
              with_reducible rfl
            rotate_left
            · simp only [Act.put, List.setIfInBounds_toArray, List.set_cons_zero, List.set_cons_succ, i64_w, i32_w]
              rfl
            refine take_ (i := 3) (N := some 22) (v := ?_) (a' := ?_) #[true, true, true, true, true, false, false, false, false, false, false] rfl rfl (take_ofW HT_.out HW_.out (by kernel_rfl)) (fun _ _ _ h => h) (Or.inl ⟨by rfl, ?_⟩) hHeld ?_ ?_
            rotate_left
            · rintro w' ⟨s0, s1, s2, s3, s4, s5, s6, s7, s8⟩
              go_simp
              with_reducible rfl
            rotate_left
            · simp only [Act.put, List.setIfInBounds_toArray, List.set_cons_zero, List.set_cons_succ, i64_w, i32_w]
              rfl
            refine pure_ (i := 5) (N := some 24) (v := ?_) (a' := ?_) #[true, true, true, true, true, true, false, false, false, false, false] rfl rfl (any_of HT_.out (by kernel_rfl)) (fun _ _ _ h => h) (Or.inl ⟨by rfl, ?_⟩) ?_ ?_
            rotate_left
            · intro w'
              go_simp
              with_reducible rfl
            rotate_left
            · simp only [Act.put, List.setIfInBounds_toArray, List.set_cons_zero, List.set_cons_succ, i64_w, i32_w]
              rfl
            refine take_ (i := 6) (N := some 25) (v := ?_) (a' := ?_) #[true, true, true, true, true, true, true, false, false, false, false] rfl rfl (take_ofW HT_.out HW_.out (by kernel_rfl)) (fun _ _ _ h => h) (Or.inl ⟨by rfl, ?_⟩) hHeld ?_ ?_
            rotate_left
            · rintro w' ⟨s0, s1, s2, s3, s4, s5, s6, s7, s8⟩
              go_simp
              with_reducible rfl
            rotate_left
            · simp only [Act.put, List.setIfInBounds_toArray, List.set_cons_zero, List.set_cons_succ, i64_w, i32_w]
              rfl
            refine one_ (i := 7) (N := some 26) #[true, true, true, true, true, true, true, true, false, false, false] rfl rfl (one_of HT_.out (by kernel_rfl)) (by decide) (fun K hK => ?_)
            refine value_ (w1 := ?_) (v := ?_) (by rfl) rfl ?_ ?_
            rotate_left 2
            · go_simp
              constructor
              · rfl
              · rfl
            refine hK.out _ _ ⟨(blk_cell (blk_alloc BK204.out _) 0).trans rfl, (blk_cell (blk_alloc BK204.out _) 1).trans rfl, (blk_cell (blk_alloc BK204.out _) 2).trans rfl, (blk_cell (blk_alloc BK204.out _) 3).trans rfl, (blk_cell (blk_alloc BK202.out _) 0).trans rfl, (blk_cell (blk_alloc BK202.out _) 1).trans rfl, (blk_cell (blk_alloc BK202.out _) 2).trans rfl, (blk_cell (blk_alloc BK202.out _) 3).trans rfl, (World.cell?_alloc_lt _ _ _ (World.block_lt_of_cell? _ _ (((HB.out.cell (World.block_lt_of_cell? w _ hw205_0)).trans hw205_0)))).trans (((HB.out.cell (World.block_lt_of_cell? w _ hw205_0)).trans hw205_0))⟩ (fun hHeld => ?_)
            clear hK K
            refine norm_ (a' := ?_) ?_ ?_
            rotate_left
            · show Act.put _ (some 26) _ = _
              simp only [Act.put, List.setIfInBounds_toArray, List.set_cons_zero, List.set_cons_succ, i64_w, i32_w]
              rfl
            refine one_ (i := 8) (N := some 27) #[true, true, true, true, true, true, true, true, true, false, false] rfl rfl (one_of HT_.out (by kernel_rfl)) (by decide) (fun K hK => ?_)
            refine Kd.R_append_step (Kd.int .u64) (w0 := w) w.heap.size (by rfl) (.tmp 20) (.tmp 26) 80 64 (.int .u64 0) 8 rfl Try.underlying80 info64 rfl (by decide) (by omega) u205001 x205001_1 (rd l0_1 x4_1) [.int .u64 (rd l0_1 x4_1)] (fun _ => True) (fun _ => False) rfl rfl ?aP (fun _ hk => hk.elim) ?aF ?aO ?aB ?aS ?aL ?_
            (case aP => exact rfl)
            (case aB => exact (by repeat (first | (with_reducible first | exact HB.out | apply below_alloc | apply pw_below_drewN | apply below_drew1 | refine below_set ?_ GE202.out | refine below_set ?_ GE203.out | refine below_set ?_ GE204.out) | exact HB.out)))
            (case aF => exact (fun _ _ => trivial))
            (case aO => exact (by (with_reducible repeat (first | apply Kd.R_alloc | apply Kd.R_drewN | apply Kd.R_drew)); exact HO_205001.out))
            (case aS => exact (below_size (by repeat (first | (with_reducible first | exact HB.out | apply below_alloc | apply pw_below_drewN | apply below_drew1 | refine below_set ?_ GE202.out | refine below_set ?_ GE203.out | refine below_set ?_ GE204.out) | exact HB.out))))
            (case aL => have := LMc12.out; omega)
            intro v207 w17 ho hb hg hat
            rw [← Ny206.out] at ho
            have n0_ := Aside0.mk (blk_grown (g := gb202) (o := .cells #[.int .u64 a0_0, .slice (some ad205) l0_1.length c0_1, .int .i64 a0_2, .string a0_3] 77 (0, 0)) (by (with_reducible repeat (first | refine blk_drewN ?_ _ | refine blk_drew ?_ | refine blk_alloc ?_ _)); exact BK202.out) hg (Kd.R_ne HO_205001.out BK202.out (by decide)))
            have n1_ := Aside0.mk (blk_grown (g := gb203) (o := .cells #[.int .u64 0, .slice none 0 0, .int .i64 0, .string (⟨#[]⟩ : ByteArray)] 82 (0, 0)) (by (with_reducible repeat (first | refine blk_drewN ?_ _ | refine blk_drew ?_ | refine blk_alloc ?_ _)); exact BK203.out) hg (Kd.R_ne HO_205001.out BK203.out (by decide)))
            have n2_ := Aside0.mk (blk_grown (g := gb204) (o := .cells #[.int .u64 a0_0, u205001, .int .i64 a0_2, .string a0_3] 82 (0, 0)) (by (with_reducible repeat (first | refine blk_drewN ?_ _ | refine blk_drew ?_ | refine blk_alloc ?_ _)); exact BK204.out) hg (Kd.R_ne HO_205001.out BK204.out (by decide)))
            have n3_ := Aside0.mk (hb)
            have n4_ := Aside0.mk (ho)
            clear BK202
            clear BK203
            clear BK204
            clear HB
            clear HO_205001
            have BK202 := n0_
            have BK203 := n1_
            have BK204 := n2_
            have HB := n3_
            have HO208 := n4_
            clear n0_ n1_ n2_ n3_ n4_
            clear ho hb hg hat
            obtain ⟨Ao18, co18, eo18⟩ := Kd.R_slice HO208.out
            (first | subst eo18 | (injection eo18 with f1_ f2_ f3_; have f4_ := f1_.symm; have f5_ := f3_.symm; clear f1_ f2_ f3_; subst f4_; subst f5_))
            refine hK.out _ _ ⟨(blk_cell BK204.out 0).trans rfl, (blk_cell BK204.out 1).trans rfl, (blk_cell BK204.out 2).trans rfl, (blk_cell BK204.out 3).trans rfl, (blk_cell BK202.out 0).trans rfl, (blk_cell BK202.out 1).trans rfl, (blk_cell BK202.out 2).trans rfl, (blk_cell BK202.out 3).trans rfl, ((HB.out.cell (World.block_lt_of_cell? w _ hw205_0)).trans hw205_0)⟩ (fun hHeld => ?_)
            clear hK K
            refine norm_ (a' := ?_) ?_ ?_
            rotate_left
            · show Act.put _ (some 27) _ = _
              simp only [Act.put, List.setIfInBounds_toArray, List.set_cons_zero, List.set_cons_succ, i64_w, i32_w]
              rfl
            refine pure_ (i := 9) (N := some 28) (v := ?_) (a' := ?_) #[true, true, true, true, true, true, true, true, true, true, false] rfl rfl (any_of HT_.out (by kernel_rfl)) (fun _ _ _ h => h) (Or.inl ⟨by rfl, ?_⟩) ?_ ?_
            rotate_left
            · intro w'
              go_simp
              with_reducible rfl
            rotate_left
            · simp only [Act.put, List.setIfInBounds_toArray, List.set_cons_zero, List.set_cons_succ, i64_w, i32_w]
              rfl
            refine last_ (i := 10) (N := none) #[true, true, true, true, true, true, true, true, true, true, true] rfl rfl (one_of HT_.out (by kernel_rfl)) (by decide) (fun K hK => ?_)
            have hs19 : w17.cell? ⟨gb204, 1, none⟩ = some (u205001) := (blk_cell BK204.out 1).trans rfl
            have hfs19 := blk_frozen BK204.out 1
            have hns19_0 := NB202_204.out
            have hns19_1 := NB203_204.out
            have hms19_0 := NB204_202.out
            have hms19_1 := NB204_203.out
            refine skip_ (w1 := ?_) (by rfl) rfl ?_ ?_
            rotate_left
            · go_simp
              rfl
            refine hK.out _ _ ?_
            clear hK K
            refine done_ (done_of HT_.out (by kernel_rfl)) ?_
            try go_wp2
            go_roundg k1
            case measure => have := HK1.out; omega
            case rel => exact ⟨(wrap64 (x4_1 + 1)), (y206), (.slice Ao18 y206.length co18), (by first | rfl | (simp; done) | (simp [*]; done)), H', ⟨by have := HK1.out; omega⟩, ⟨by (with_reducible repeat (first | apply Kd.R_alloc | apply Kd.R_drewN | apply Kd.R_drew)); exact Kd.R_mono (Kd.R_far (p := ⟨gb204, 1, none⟩) (Kd.R_types HO208.out BK204.out (by decide)) (fun _ hk => hk.2) (.slice Ao18 y206.length co18)) (fun _ hk => trivial)⟩, ⟨by (with_reducible repeat (first | refine blk_drewN ?_ _ | refine blk_drew ?_ | refine blk_alloc ?_ _)); refine blk_far ?_ NB202_204.out _; (with_reducible repeat (first | refine blk_drewN ?_ _ | refine blk_drew ?_ | refine blk_alloc ?_ _)); exact BK202.out⟩, ⟨by (with_reducible repeat (first | refine blk_drewN ?_ _ | refine blk_drew ?_ | refine blk_alloc ?_ _)); refine blk_far ?_ NB203_204.out _; (with_reducible repeat (first | refine blk_drewN ?_ _ | refine blk_drew ?_ | refine blk_alloc ?_ _)); exact BK203.out⟩, ⟨by (with_reducible repeat (first | refine blk_drewN ?_ _ | refine blk_drew ?_ | refine blk_alloc ?_ _)); refine blk_put (cs := #[.int .u64 a0_0, u205001, .int .i64 a0_2, .string a0_3]) ?_ 1 _ rfl; (with_reducible repeat (first | refine blk_drewN ?_ _ | refine blk_drew ?_ | refine blk_alloc ?_ _)); exact BK204.out⟩, ⟨by repeat (first | (with_reducible first | exact HB.out | apply below_alloc | apply pw_below_drewN | apply below_drew1 | refine below_set ?_ GE202.out | refine below_set ?_ GE203.out | refine below_set ?_ GE204.out) | exact HB.out)⟩⟩
          · rw [if_neg c12] at H
            exact absurd H (by simp)
        · rw [if_neg c11] at H
          exact absurd H (by simp)
      · rw [if_neg c10] at H
        have c10b0 : decide (x4_1 < (l0_1.length : Int)) = false := decide_eq_false c10
        clear c10
        simp only [Option.some.injEq, Prod.mk.injEq] at H
        obtain ⟨rfl, rfl, rfl, rfl⟩ := H
        have hnb20 := NB202_203.out
        have hnc20 := NB203_202.out
        have hnb21 := NB202_204.out
        have hnc21 := NB204_202.out
        have hcz22_0 : wr.cell? ⟨gb202, 0, none⟩ = some (.int .u64 a0_0) := (blk_cell BK202.out 0).trans rfl
        have hcz22_1 : wr.cell? ⟨gb202, 1, none⟩ = some (.slice A0_1 l0_1.length c0_1) := (blk_cell BK202.out 1).trans rfl
        have hcz22_2 : wr.cell? ⟨gb202, 2, none⟩ = some (.int .i64 a0_2) := (blk_cell BK202.out 2).trans rfl
        have hcz22_3 : wr.cell? ⟨gb202, 3, none⟩ = some (.string a0_3) := (blk_cell BK202.out 3).trans rfl
        have hfz22_0 := blk_frozen BK202.out 0
        have hfz22_1 := blk_frozen BK202.out 1
        have hfz22_2 := blk_frozen BK202.out 2
        have hfz22_3 := blk_frozen BK202.out 3
        have hnb23 := NB204_203.out
        have hnc23 := NB203_204.out
        have hcz24_0 : wr.cell? ⟨gb204, 0, none⟩ = some (.int .u64 a0_0) := (blk_cell BK204.out 0).trans rfl
        have hcz24_1 : wr.cell? ⟨gb204, 1, none⟩ = some (u205001) := (blk_cell BK204.out 1).trans rfl
        have hcz24_2 : wr.cell? ⟨gb204, 2, none⟩ = some (.int .i64 a0_2) := (blk_cell BK204.out 2).trans rfl
        have hcz24_3 : wr.cell? ⟨gb204, 3, none⟩ = some (.string a0_3) := (blk_cell BK204.out 3).trans rfl
        have hfz24_0 := blk_frozen BK204.out 0
        have hfz24_1 := blk_frozen BK204.out 1
        have hfz24_2 := blk_frozen BK204.out 2
        have hfz24_3 := blk_frozen BK204.out 3
        have hcz25_0 : wr.cell? ⟨gb203, 0, none⟩ = some (.int .u64 0) := (blk_cell BK203.out 0).trans rfl
        have hcz25_1 : wr.cell? ⟨gb203, 1, none⟩ = some (.slice none 0 0) := (blk_cell BK203.out 1).trans rfl
        have hcz25_2 : wr.cell? ⟨gb203, 2, none⟩ = some (.int .i64 0) := (blk_cell BK203.out 2).trans rfl
        have hcz25_3 : wr.cell? ⟨gb203, 3, none⟩ = some (.string (⟨#[]⟩ : ByteArray)) := (blk_cell BK203.out 3).trans rfl
        have hfz25_0 := blk_frozen BK203.out 0
        have hfz25_1 := blk_frozen BK203.out 1
        have hfz25_2 := blk_frozen BK203.out 2
        have hfz25_3 := blk_frozen BK203.out 3
        obtain ⟨Ao26, co26, eo26⟩ := Kd.R_slice HO_205001.out
        subst eo26
        go_wp2
        refine bodyPost_ret (results_cell_row rfl _ _ gb203 82 #[.int .u64 a0_0, .slice Ao26 x205001_1.length co26, .int .i64 a0_2, .string a0_3] (0, 0) _ rfl (by (with_reducible repeat (first | refine blk_drewN ?_ _ | refine blk_drew ?_ | refine blk_alloc ?_ _)); refine blk_put (cs := #[.int .u64 a0_0, .slice Ao26 x205001_1.length co26, .int .i64 a0_2, .string (⟨#[]⟩ : ByteArray)]) ?_ 3 _ rfl; (with_reducible repeat (first | refine blk_drewN ?_ _ | refine blk_drew ?_ | refine blk_alloc ?_ _)); refine blk_put (cs := #[.int .u64 a0_0, .slice Ao26 x205001_1.length co26, .int .i64 0, .string (⟨#[]⟩ : ByteArray)]) ?_ 2 _ rfl; (with_reducible repeat (first | refine blk_drewN ?_ _ | refine blk_drew ?_ | refine blk_alloc ?_ _)); refine blk_put (cs := #[.int .u64 a0_0, .slice none 0 0, .int .i64 0, .string (⟨#[]⟩ : ByteArray)]) ?_ 1 _ rfl; (with_reducible repeat (first | refine blk_drewN ?_ _ | refine blk_drew ?_ | refine blk_alloc ?_ _)); refine blk_put (cs := #[.int .u64 0, .slice none 0 0, .int .i64 0, .string (⟨#[]⟩ : ByteArray)]) ?_ 0 _ rfl; (with_reducible repeat (first | refine blk_drewN ?_ _ | refine blk_drew ?_ | refine blk_alloc ?_ _)); exact BK203.out) Try.underlying82 rfl (by kernel_rfl)) rfl ?_
        exact ⟨_, by first | rfl | (simp [errW_none, errW_some] <;> rfl) | (simp [*, errW_none, errW_some] <;> rfl), by (with_reducible repeat (first | apply Kd.R_alloc | apply Kd.R_drewN | apply Kd.R_drew)); exact Kd.R_mono (Kd.R_far (p := ⟨gb203, 3, none⟩) (Kd.R_far (p := ⟨gb203, 2, none⟩) (Kd.R_far (p := ⟨gb203, 1, none⟩) (Kd.R_far (p := ⟨gb203, 0, none⟩) (Kd.R_types HO_205001.out BK203.out (by decide)) (fun _ hk => hk.2) (.int .u64 a0_0)) (fun _ hk => hk.2) (.slice Ao26 x205001_1.length co26)) (fun _ hk => hk.2) (.int .i64 a0_2)) (fun _ hk => hk.2) (.string a0_3)) (fun _ hk => trivial), by repeat (first | (with_reducible first | exact HB.out | apply below_alloc | apply pw_below_drewN | apply below_drew1 | refine below_set ?_ GE202.out | refine below_set ?_ GE203.out | refine below_set ?_ GE204.out) | exact HB.out)⟩

/-! ### object_ReadCommit: function 33 -/
set_option linter.unusedVariables false
set_option linter.unusedSimpArgs false
attribute [local go_sem] max2_int min2_int max_two min_two
def rcGo : Nat → List Int → Bool → List Int → List Int × Bool × List Int
  | 0, l, bad, ps => (l, bad, ps)
  | n + 1, l, bad, ps => rcGo n (takeR l bad 8).2.1 (takeR l bad 8).2.2 (ps ++ [eightR l bad])
def rcFin (k : Nat) (tree : Int) (ps : List Int) (date : Int) (t : List Int × List Int × Bool) : Option (Int × List Int × Int × ByteArray × Int) :=
  (object_Commit.f k tree ps date (strOfNums t.1)).bind fun b => if t.2.2 = true then some (0, [], 0, ⟨#[]⟩, 9) else (if 0 < t.2.1.length then some (0, [], 0, ⟨#[]⟩, 9) else (if b.2 = 0 then some (tree, ps, date, strOfNums t.1, 0) else some (0, [], 0, ⟨#[]⟩, 9)))
def rcEnd (k : Nat) (tree : Int) (r : List Int × Bool × List Int) : Option (Int × List Int × Int × ByteArray × Int) :=
  if 0 ≤ oneR (takeR r.1 r.2.1 8).2.1 (takeR r.1 r.2.1 8).2.2 then rcFin k tree r.2.2 (wrap64 (eightR r.1 r.2.1)) (takeR (takeR (takeR r.1 r.2.1 8).2.1 (takeR r.1 r.2.1 8).2.2 1).2.1 (takeR (takeR r.1 r.2.1 8).2.1 (takeR r.1 r.2.1 8).2.2 1).2.2 (oneR (takeR r.1 r.2.1 8).2.1 (takeR r.1 r.2.1 8).2.2)) else none
def object_ReadCommit.f (k : Nat) (l0 : List Int) : Option (Int × List Int × Int × ByteArray × Int) :=
  rcEnd k (eightR l0 false) (rcGo (mn (oneR (takeR l0 false 8).2.1 (takeR l0 false 8).2.2) 9).toNat (takeR (takeR l0 false 8).2.1 (takeR l0 false 8).2.2 1).2.1 (takeR (takeR l0 false 8).2.1 (takeR l0 false 8).2.2 1).2.2 [])
theorem object_ReadCommit.mono : ∀ a0 k, LeO (object_ReadCommit.f k a0) (object_ReadCommit.f (k + 1) a0) := by
  intro a0 k
  unfold object_ReadCommit.f rcEnd rcFin
  refine LeO.ite ?_ (LeO.none _)
  exact LeO.bind (object_Commit.mono _ _ _ _ _) (fun b => LeO.refl _)
def zeroC : Array Value := #[.int .u64 0, .slice none 0 0, .int .i64 0, .string ⟨#[]⟩]
set_option maxHeartbeats 8000000 in
set_option maxRecDepth 100000 in
theorem object_ReadCommit.calls (k : Nat) (A0 : Option Addr) (c0 : Nat) (l0 : List Int) (r1 : Int) (r2 : List Int) (r3 : Int) (r4 : ByteArray) (r5 : Int) (w : World) (hr0 : Kd.C (Kd.int .u8) w A0 l0.length l0) (hc0 : l0.length ≤ c0) (h : object_ReadCommit.f k l0 = some (r1, r2, r3, r4, r5)) :
    Calls Try.prog 33 #[.slice A0 l0.length c0] w fun e w' => ∃ v1_ : Value, e = .returned (.tuple #[.agg #[.int .u64 r1, v1_, .int .i64 r3, .string r4], .int .i64 r5]) ∧ Kd.R (Kd.int .u64) 65 w' w.heap.size (fun _ => True) v1_ r2 ∧ Below w.heap.size w w' := by
  have HR0 := Aside0.mk hr0
  have HC0 := Aside0.mk hc0
  clear hr0 hc0
  have hn2 : ((w.alloc (.cells #[.int .u64 0, .slice none 0 0, .int .i64 0, .string ⟨#[]⟩] 77 (0, 0))).alloc (.cells #[.slice A0 l0.length c0, .bool false] 111 (0, 0))).heap[w.heap.size + 1]? = some (.cells #[.slice A0 l0.length c0, .bool false] 111 (0, 0)) := by
    have e : (w.alloc (.cells #[.int .u64 0, .slice none 0 0, .int .i64 0, .string ⟨#[]⟩] 77 (0, 0))).heap.size = w.heap.size + 1 := Array.size_push _
    have := blk_new (w.alloc (.cells #[.int .u64 0, .slice none 0 0, .int .i64 0, .string ⟨#[]⟩] 77 (0, 0))) (.cells #[.slice A0 l0.length c0, .bool false] 111 (0, 0))
    rwa [e] at this
  have HN2 := Aside0.mk hn2
  have HN1 := Aside0.mk (blk_alloc (blk_new w (.cells #[.int .u64 0, .slice none 0 0, .int .i64 0, .string ⟨#[]⟩] 77 (0, 0))) (.cells #[.slice A0 l0.length c0, .bool false] 111 (0, 0)))
  clear hn2
  obtain ⟨g, hgw⟩ : ∃ g, g = w.heap.size + 1 := ⟨_, rfl⟩
  obtain ⟨gr, hgr⟩ : ∃ gr, gr = w.heap.size := ⟨_, rfl⟩
  have HGW := Aside0.mk hgw
  have HGR := Aside0.mk hgr
  unfold object_ReadCommit.f at h
  have HE1 : Aside0 (∀ w1, Below w.heap.size w w1 → IsRd w w1 (w.heap.size + 1) l0 false → _) := ⟨fun w1 hb hs => eight_calls w w1 (w.heap.size + 1) l0 false hb hs⟩
  generalize eightR l0 false = tree at *
  generalize takeR l0 false 8 = T1 at *
  obtain ⟨x1, l1, b1⟩ := T1
  dsimp only at h HE1
  have HE2 : Aside0 (∀ w1, Below w.heap.size w w1 → IsRd w w1 (w.heap.size + 1) l1 b1 → _) := ⟨fun w1 hb hs => one_calls w w1 (w.heap.size + 1) l1 b1 hb hs⟩
  generalize oneR l1 b1 = n1 at *
  generalize takeR l1 b1 1 = T2 at *
  obtain ⟨x2, l2, b2⟩ := T2
  dsimp only at h HE2
  have hm9 : mn n1 9 ≤ 9 := by unfold mn; split <;> omega
  have hm_ : mn n1 9 = (if 9 < n1 then 9 else n1) := rfl
  generalize mn n1 9 = m at *
  replace hm_ := hm_.symm
  generalize hM : m.toNat = M at *
  have HM9 : Aside0 (M ≤ 9) := ⟨by omega⟩
  clear hm9
  generalize hF : rcGo M l2 b2 [] = F at *
  have HF := Aside0.mk hF
  have HEND := Aside0.mk h
  clear h hF hgw hgr
  have HMM := Aside0.mk hM
  clear hM
  go_enter Try.func33, Try.ntmps33
  go_wp2_with (first
    | (go_at_call 51; go_loud (refine Calls.mono (HE1.out _ ?hB ?hs) ?_; (case hB => exact below_alloc (below_alloc (Below.refl _ _) _) _); (case hs => exact ⟨A0, c0, HN2.out, by omega, HC0.out, HR0.out⟩); rintro e w1 ⟨rfl, hs, hb, hk⟩; have HS1 := Aside0.mk hs; have HB1 := Aside0.mk hb; have HG1 := Aside0.mk (blk_kept HN1.out hk (by omega)); have HN3 := Aside0.mk (blk_new w1 (.cells #[.int .u64 tree, .slice none 0 0, .int .i64 0, .string ⟨#[]⟩] 77 (0, 0))); clear hs hb hk))
    | (go_at_call 50; go_loud (refine Calls.mono (HE2.out _ ?hB ?hs) ?_; (case hB => exact below_alloc HB1.out _); (case hs => obtain ⟨A5, c5, q1, q2, q3, q4⟩ := HS1.out; exact ⟨A5, c5, blk_alloc q1 _, q2, q3, q4⟩); rintro e w2 ⟨rfl, hs, hb, hk⟩; have HS2 := Aside0.mk hs; have HB2 := Aside0.mk hb; have HG2 := Aside0.mk (blk_kept (blk_alloc HG1.out _) hk (by omega)); have HP2 := Aside0.mk (blk_kept HN3.out hk (by have := HS1.out.choose_spec.choose_spec.1; have := blk_lt this; omega)); clear hs hb hk)))
  go_loopg [14] M (fun kq v14 wr => ∃ (l : List Int) (bad : Bool) (ps : List Int) (vp : Value), v14 = .int .i64 ((M - kq : Nat)) ∧ kq ≤ M ∧ Aside0 (rcGo kq l bad ps = F) ∧ Aside0 (ps.length + kq = M) ∧ Aside0 (IsRd w wr (w.heap.size + 1) l bad) ∧ wr.heap[w1.heap.size]? = some (.cells #[.int .u64 tree, vp, .int .i64 0, .string ⟨#[]⟩] 77 (0, 0)) ∧ wr.heap[w.heap.size]? = some (.cells #[.int .u64 0, .slice none 0 0, .int .i64 0, .string ⟨#[]⟩] 77 (0, 0)) ∧ Aside0 (Kd.R (Kd.int .u64) 65 wr w.heap.size (fun k_ => k_ ≠ w.heap.size + 1 ∧ k_ ≠ w1.heap.size) vp ps) ∧ Aside0 (Below w.heap.size w wr))
  case atStart => exact ⟨l2, b2, [], .slice none 0 0, by simp, Nat.le_refl _, HF, ⟨by simp⟩, HS2, HP2.out, HG2.out, ⟨Kd.R_nil _ _ _ _ _⟩, HB2⟩
  case round =>
    obtain ⟨l, bad, ps, vp, rfl, hkM, HA, HLEN, HS, hcp, hrp, HO, HB⟩ := hrel
    have HSZ : Aside0 (w.heap.size + 2 ≤ w1.heap.size) := ⟨by have := blk_lt HS1.out.choose_spec.choose_spec.1; omega⟩
    clear HF HS1 HG1 HN3 HS2 HB2 HG2 HP2 HE1 HE2 HN1 HN2
    cases gk with
    | zero =>
      have hd : decide ((M : Int) < m) = false := decide_eq_false (by have := HMM.out; omega)
      obtain rfl : F = (l, bad, ps) := HA.out.symm
      have hend := HEND.out
      clear HEND HA
      unfold rcEnd at hend
      dsimp only at hend
      have HE3 := Aside0.mk (eight_calls w wr (w.heap.size + 1) l bad HB.out HS.out)
      generalize eightR l bad = d8 at *
      generalize takeR l bad 8 = T3 at *
      obtain ⟨x3, l3, b3⟩ := T3
      dsimp only at hend HE3
      have HE4 : Aside0 (∀ w1, Below w.heap.size w w1 → IsRd w w1 (w.heap.size + 1) l3 b3 → _) := ⟨fun w1 hb hs => one_calls w w1 (w.heap.size + 1) l3 b3 hb hs⟩
      generalize oneR l3 b3 = n4 at *
      generalize takeR l3 b3 1 = T4 at *
      obtain ⟨x4, l4, b4⟩ := T4
      dsimp only at hend HE4
      by_cases c4 : 0 ≤ n4
      · rw [if_pos c4] at hend
        have HE5 : Aside0 (∀ w1, Below w.heap.size w w1 → IsRd w w1 (w.heap.size + 1) l4 b4 → _) := ⟨fun w1 hb hs => take_calls w w1 (w.heap.size + 1) l4 b4 n4 hb hs c4⟩
        clear c4
        generalize takeR l4 b4 n4 = T5 at *
        obtain ⟨x5, l5, b5⟩ := T5
        unfold rcFin at hend
        dsimp only at hend HE5
        generalize hnote : strOfNums x5 = note at *
        generalize hdate : wrap64 d8 = date at *
        obtain ⟨⟨bb, b2⟩, hT, h3⟩ := Option.bind_eq_some_iff.mp hend
        have HT := Aside0.mk hT
        have H3 := Aside0.mk h3
        have HP := Aside0.mk hnote
        have HC := Aside0.mk hcp
        have HR := Aside0.mk hrp
        have NE1 := Aside0.mk (blk_ne (HS.out.choose_spec.choose_spec.1) hcp (by decide))
        have NE2 := Aside0.mk (blk_ne (HS.out.choose_spec.choose_spec.1) hrp (by decide))
        clear hT h3 hend hnote hcp hrp
        obtain ⟨Ap, cp, ep⟩ := Kd.R_slice HO.out
        subst ep
        have h3 := H3.out
        clear H3
        have SPLIT : (b5 = true ∧ True) ∨ (b5 = false ∧ 0 < l5.length) ∨ (b5 = false ∧ ¬ 0 < l5.length ∧ ¬ b2 = 0) ∨ (b5 = false ∧ ¬ 0 < l5.length ∧ b2 = 0) := by
          cases b5
          · by_cases q1 : 0 < l5.length
            · exact .inr (.inl ⟨rfl, q1⟩)
            · by_cases q2 : b2 = 0
              · exact .inr (.inr (.inr ⟨rfl, q1, q2⟩))
              · exact .inr (.inr (.inl ⟨rfl, q1, q2⟩))
          · exact .inl ⟨rfl, trivial⟩
        rcases SPLIT with ⟨rfl, -⟩ | ⟨rfl, q1⟩ | ⟨rfl, q1, q2⟩ | ⟨rfl, q1, q2⟩
        · rw [if_pos rfl] at h3
          simp only [Option.some.injEq, Prod.mk.injEq] at h3
          obtain ⟨rfl, rfl, rfl, rfl, rfl⟩ := h3
          go_wp2_with (first
            | (go_at_call 51; go_loud (refine Calls.mono HE3.out ?_; rintro e w2 ⟨rfl, hs, hb, hk⟩; have HS2 := Aside0.mk hs; have HB2 := Aside0.mk hb; have HO2 := Aside0.mk (Kd.R_kept HO.out hk (fun _ h => h.1)); have HC2 := Aside0.mk (blk_kept HC.out hk (fun e => NE1.out e.symm)); have HR2 := Aside0.mk (blk_kept HR.out hk (fun e => NE2.out e.symm)); have hx2 : w2.cell? ⟨w1.heap.size, 2, none⟩ = some (.int .i64 0) := (blk_cell HC2.out 2).trans rfl; have hf2 : w2.frozen? ⟨w1.heap.size, 2, none⟩ = false := blk_frozen HC2.out 2; clear hs hb hk))
            | ((with_reducible refine gate_store (t := 2) (p := 25) rfl ?_); go_loud (refine store_event (t := 2) (p := 25) (v := ?vo1) (w1 := (w2.setCell ⟨w1.heap.size, 2, none⟩ (.int .i64 date))) ?hg ?ho ?hn ?hr ?_; (case ho => rfl); (case hg => rfl); (case hn => rfl); (case hr => first | (go_simp; done) | (go_simp; rfl)); intro w3 hw; have HS3 : Aside0 (IsRd w w3 (w.heap.size + 1) l3 b3) := ⟨by rw [hw]; obtain ⟨A5, c5, q1, q2, q3, q4⟩ := HS2.out; exact ⟨A5, c5, blk_far q1 NE1.out _, q2, q3, q4⟩⟩; have HC3 := Aside0.mk (show w3.heap[w1.heap.size]? = some (.cells #[.int .u64 tree, .slice Ap ps.length cp, .int .i64 date, .string ⟨#[]⟩] 77 (0, 0)) by rw [hw]; exact blk_put HC2.out 2 _ rfl); have HR3 := Aside0.mk (show w3.heap[w.heap.size]? = some (.cells #[.int .u64 0, .slice none 0 0, .int .i64 0, .string ⟨#[]⟩] 77 (0, 0)) by rw [hw]; exact blk_far HR2.out (by have := HSZ.out; show w.heap.size ≠ w1.heap.size; omega) _); have HO3 := Aside0.mk (show Kd.R (Kd.int .u64) 65 w3 w.heap.size (fun k_ => k_ ≠ w.heap.size + 1 ∧ k_ ≠ w1.heap.size) (.slice Ap ps.length cp) ps by rw [hw]; exact Kd.R_far HO2.out (fun k_ hk => hk.2) _); have HB3 := Aside0.mk (show Below w.heap.size w w3 by rw [hw]; exact HB2.out.setCell (by have := HSZ.out; show w.heap.size ≤ w1.heap.size; omega) _); clear hw hx2 hf2))
            | (go_at_call 50; go_loud (refine Calls.mono (HE4.out _ HB3.out HS3.out) ?_; rintro e w4 ⟨rfl, hs, hb, hk⟩; have HS4 := Aside0.mk hs; have HB4 := Aside0.mk hb; have HO4 := Aside0.mk (Kd.R_kept HO3.out hk (fun _ h => h.1)); have HC4 := Aside0.mk (blk_kept HC3.out hk (fun e => NE1.out e.symm)); have HR4 := Aside0.mk (blk_kept HR3.out hk (fun e => NE2.out e.symm)); clear hs hb hk))
            | (go_at_call 49; go_loud (refine Calls.mono (HE5.out _ HB4.out HS4.out) ?_; rintro e w5 ⟨A2, c2, rfl, hl2, hC2, hs, hb, hk⟩; have HS5 := Aside0.mk hs; have HB5 := Aside0.mk hb; have HO5 := Aside0.mk (Kd.R_kept HO4.out hk (fun _ h => h.1)); have HC5 := Aside0.mk (blk_kept HC4.out hk (fun e => NE1.out e.symm)); have HR5 := Aside0.mk (blk_kept HR4.out hk (fun e => NE2.out e.symm)); have hcv := Kd.C_string (P := Try.prog) (A := A2) (c := c2) Try.underlying53 Try.underlying5 Try.underlying9 (Kd.C_below hC2 hb); rw [HP.out] at hcv; have hx5 : w5.cell? ⟨w1.heap.size, 3, none⟩ = some (.string ⟨#[]⟩) := (blk_cell HC5.out 3).trans rfl; have hf5 : w5.frozen? ⟨w1.heap.size, 3, none⟩ = false := blk_frozen HC5.out 3; clear hs hb hk hC2 hl2))
            | ((with_reducible refine gate_store (t := 9) (p := 29) rfl ?_); go_loud (refine store_event (t := 9) (p := 29) (v := ?vo2) (w1 := (w5.setCell ⟨w1.heap.size, 3, none⟩ (.string note))) ?hg ?ho ?hn ?hr ?_; (case ho => rfl); (case hg => rfl); (case hn => rfl); (case hr => first | (go_simp; done) | (go_simp; rfl)); intro w6 hw; have HS6 : Aside0 (IsRd w w6 (w.heap.size + 1) l5 true) := ⟨by rw [hw]; obtain ⟨A5, c5, q1, q2, q3, q4⟩ := HS5.out; exact ⟨A5, c5, blk_far q1 NE1.out _, q2, q3, q4⟩⟩; have HC6 := Aside0.mk (show w6.heap[w1.heap.size]? = some (.cells #[.int .u64 tree, .slice Ap ps.length cp, .int .i64 date, .string note] 77 (0, 0)) by rw [hw]; exact blk_put HC5.out 3 _ rfl); have HR6 := Aside0.mk (show w6.heap[w.heap.size]? = some (.cells #[.int .u64 0, .slice none 0 0, .int .i64 0, .string ⟨#[]⟩] 77 (0, 0)) by rw [hw]; exact blk_far HR5.out (by have := HSZ.out; show w.heap.size ≠ w1.heap.size; omega) _); have HO6 := Aside0.mk (show Kd.R (Kd.int .u64) 65 w6 w.heap.size (fun k_ => k_ ≠ w.heap.size + 1 ∧ k_ ≠ w1.heap.size) (.slice Ap ps.length cp) ps by rw [hw]; exact Kd.R_far HO5.out (fun k_ hk => hk.2) _); have HB6 := Aside0.mk (show Below w.heap.size w w6 by rw [hw]; exact HB5.out.setCell (by have := HSZ.out; show w.heap.size ≤ w1.heap.size; omega) _); clear hw hx5 hf5 hcv; have hy0 : w6.cell? ⟨w1.heap.size, 0, none⟩ = some (.int .u64 tree) := (blk_cell HC6.out 0).trans rfl; have hy1 : w6.cell? ⟨w1.heap.size, 1, none⟩ = some (.slice Ap ps.length cp) := (blk_cell HC6.out 1).trans rfl; have hy2 : w6.cell? ⟨w1.heap.size, 2, none⟩ = some (.int .i64 date) := (blk_cell HC6.out 2).trans rfl; have hy3 : w6.cell? ⟨w1.heap.size, 3, none⟩ = some (.string note) := (blk_cell HC6.out 3).trans rfl))
            | (go_at_call 30; go_loud (refine Calls.mono (object_Commit.calls k tree _ cp ps date note bb b2 w6 (Kd.R_reads' HO6.out).2.2 (Kd.R_reads' HO6.out).2.1 HT.out) ?_; rintro e w7 ⟨v7, rfl, ho, hb⟩; clear hy0 hy1 hy2 hy3; have HB7 := Aside0.mk (below_step HB6.out hb); have HO7 := Aside0.mk (Kd.R_below HO6.out hb); have HC7 := Aside0.mk (blk_below HC6.out hb); have HR7 := Aside0.mk (blk_below HR6.out hb); obtain ⟨A9, c9, q1, q2, q3, q4⟩ := HS6.out; have HG7 := Aside0.mk (blk_below q1 hb); clear q1 q2 q3 q4 ho hb; have hz0 : w7.cell? ⟨w.heap.size + 1, 0, none⟩ = some (.slice A9 l5.length c9) := (blk_cell HG7.out 0).trans rfl; have hz1 : w7.cell? ⟨w.heap.size + 1, 1, none⟩ = some (.bool true) := (blk_cell HG7.out 1).trans rfl; have hq0 : w7.cell? ⟨w.heap.size, 0, none⟩ = some (.int .u64 0) := (blk_cell HR7.out 0).trans rfl; have hq1 : w7.cell? ⟨w.heap.size, 1, none⟩ = some (.slice none 0 0) := (blk_cell HR7.out 1).trans rfl; have hq2 : w7.cell? ⟨w.heap.size, 2, none⟩ = some (.int .i64 0) := (blk_cell HR7.out 2).trans rfl; have hq3 : w7.cell? ⟨w.heap.size, 3, none⟩ = some (.string ⟨#[]⟩) := (blk_cell HR7.out 3).trans rfl; have hp0 : w7.cell? ⟨w1.heap.size, 0, none⟩ = some (.int .u64 tree) := (blk_cell HC7.out 0).trans rfl; have hp1 : w7.cell? ⟨w1.heap.size, 1, none⟩ = some (.slice Ap ps.length cp) := (blk_cell HC7.out 1).trans rfl; have hp2 : w7.cell? ⟨w1.heap.size, 2, none⟩ = some (.int .i64 date) := (blk_cell HC7.out 2).trans rfl; have hp3 : w7.cell? ⟨w1.heap.size, 3, none⟩ = some (.string note) := (blk_cell HC7.out 3).trans rfl; have hfr : ∀ i, w7.frozen? ⟨w.heap.size, i, none⟩ = false := fun i => blk_frozen HR7.out i)))
          refine bodyPost_ret (results_ct rfl _ _ w.heap.size 77 #[.int .u64 0, .slice none 0 0, .int .i64 0, .string (⟨#[]⟩ : ByteArray)] (0, 0) _ rfl (by refine blk_put (cs := #[.int .u64 0, .slice none 0 0, .int .i64 0, .string (⟨#[]⟩ : ByteArray)]) ?_ 3 _ rfl; refine blk_put (cs := #[.int .u64 0, .slice none 0 0, .int .i64 0, .string (⟨#[]⟩ : ByteArray)]) ?_ 2 _ rfl; refine blk_put (cs := #[.int .u64 0, .slice none 0 0, .int .i64 0, .string (⟨#[]⟩ : ByteArray)]) ?_ 1 _ rfl; refine blk_put (cs := #[.int .u64 0, .slice none 0 0, .int .i64 0, .string (⟨#[]⟩ : ByteArray)]) ?_ 0 _ rfl; exact HR7.out) Try.underlying77 rfl (by kernel_rfl)) rfl ?_
          exact ⟨_, rfl, Kd.R_nil _ _ _ _ _, ((((HB7.out.setCell (Nat.le_refl _) _).setCell (Nat.le_refl _) _).setCell (Nat.le_refl _) _).setCell (Nat.le_refl _) _)⟩
        · rw [if_neg (by simp), if_pos q1] at h3
          have qd1 : decide (0 < (l5.length : Int)) = true := decide_eq_true (by omega)
          have qd2 : decide (0 < l5.length) = true := decide_eq_true q1
          simp only [Option.some.injEq, Prod.mk.injEq] at h3
          obtain ⟨rfl, rfl, rfl, rfl, rfl⟩ := h3
          go_wp2_with (first
            | (go_at_call 51; go_loud (refine Calls.mono HE3.out ?_; rintro e w2 ⟨rfl, hs, hb, hk⟩; have HS2 := Aside0.mk hs; have HB2 := Aside0.mk hb; have HO2 := Aside0.mk (Kd.R_kept HO.out hk (fun _ h => h.1)); have HC2 := Aside0.mk (blk_kept HC.out hk (fun e => NE1.out e.symm)); have HR2 := Aside0.mk (blk_kept HR.out hk (fun e => NE2.out e.symm)); have hx2 : w2.cell? ⟨w1.heap.size, 2, none⟩ = some (.int .i64 0) := (blk_cell HC2.out 2).trans rfl; have hf2 : w2.frozen? ⟨w1.heap.size, 2, none⟩ = false := blk_frozen HC2.out 2; clear hs hb hk))
            | ((with_reducible refine gate_store (t := 2) (p := 25) rfl ?_); go_loud (refine store_event (t := 2) (p := 25) (v := ?vo1) (w1 := (w2.setCell ⟨w1.heap.size, 2, none⟩ (.int .i64 date))) ?hg ?ho ?hn ?hr ?_; (case ho => rfl); (case hg => rfl); (case hn => rfl); (case hr => first | (go_simp; done) | (go_simp; rfl)); intro w3 hw; have HS3 : Aside0 (IsRd w w3 (w.heap.size + 1) l3 b3) := ⟨by rw [hw]; obtain ⟨A5, c5, q1, q2, q3, q4⟩ := HS2.out; exact ⟨A5, c5, blk_far q1 NE1.out _, q2, q3, q4⟩⟩; have HC3 := Aside0.mk (show w3.heap[w1.heap.size]? = some (.cells #[.int .u64 tree, .slice Ap ps.length cp, .int .i64 date, .string ⟨#[]⟩] 77 (0, 0)) by rw [hw]; exact blk_put HC2.out 2 _ rfl); have HR3 := Aside0.mk (show w3.heap[w.heap.size]? = some (.cells #[.int .u64 0, .slice none 0 0, .int .i64 0, .string ⟨#[]⟩] 77 (0, 0)) by rw [hw]; exact blk_far HR2.out (by have := HSZ.out; show w.heap.size ≠ w1.heap.size; omega) _); have HO3 := Aside0.mk (show Kd.R (Kd.int .u64) 65 w3 w.heap.size (fun k_ => k_ ≠ w.heap.size + 1 ∧ k_ ≠ w1.heap.size) (.slice Ap ps.length cp) ps by rw [hw]; exact Kd.R_far HO2.out (fun k_ hk => hk.2) _); have HB3 := Aside0.mk (show Below w.heap.size w w3 by rw [hw]; exact HB2.out.setCell (by have := HSZ.out; show w.heap.size ≤ w1.heap.size; omega) _); clear hw hx2 hf2))
            | (go_at_call 50; go_loud (refine Calls.mono (HE4.out _ HB3.out HS3.out) ?_; rintro e w4 ⟨rfl, hs, hb, hk⟩; have HS4 := Aside0.mk hs; have HB4 := Aside0.mk hb; have HO4 := Aside0.mk (Kd.R_kept HO3.out hk (fun _ h => h.1)); have HC4 := Aside0.mk (blk_kept HC3.out hk (fun e => NE1.out e.symm)); have HR4 := Aside0.mk (blk_kept HR3.out hk (fun e => NE2.out e.symm)); clear hs hb hk))
            | (go_at_call 49; go_loud (refine Calls.mono (HE5.out _ HB4.out HS4.out) ?_; rintro e w5 ⟨A2, c2, rfl, hl2, hC2, hs, hb, hk⟩; have HS5 := Aside0.mk hs; have HB5 := Aside0.mk hb; have HO5 := Aside0.mk (Kd.R_kept HO4.out hk (fun _ h => h.1)); have HC5 := Aside0.mk (blk_kept HC4.out hk (fun e => NE1.out e.symm)); have HR5 := Aside0.mk (blk_kept HR4.out hk (fun e => NE2.out e.symm)); have hcv := Kd.C_string (P := Try.prog) (A := A2) (c := c2) Try.underlying53 Try.underlying5 Try.underlying9 (Kd.C_below hC2 hb); rw [HP.out] at hcv; have hx5 : w5.cell? ⟨w1.heap.size, 3, none⟩ = some (.string ⟨#[]⟩) := (blk_cell HC5.out 3).trans rfl; have hf5 : w5.frozen? ⟨w1.heap.size, 3, none⟩ = false := blk_frozen HC5.out 3; clear hs hb hk hC2 hl2))
            | ((with_reducible refine gate_store (t := 9) (p := 29) rfl ?_); go_loud (refine store_event (t := 9) (p := 29) (v := ?vo2) (w1 := (w5.setCell ⟨w1.heap.size, 3, none⟩ (.string note))) ?hg ?ho ?hn ?hr ?_; (case ho => rfl); (case hg => rfl); (case hn => rfl); (case hr => first | (go_simp; done) | (go_simp; rfl)); intro w6 hw; have HS6 : Aside0 (IsRd w w6 (w.heap.size + 1) l5 false) := ⟨by rw [hw]; obtain ⟨A5, c5, q1, q2, q3, q4⟩ := HS5.out; exact ⟨A5, c5, blk_far q1 NE1.out _, q2, q3, q4⟩⟩; have HC6 := Aside0.mk (show w6.heap[w1.heap.size]? = some (.cells #[.int .u64 tree, .slice Ap ps.length cp, .int .i64 date, .string note] 77 (0, 0)) by rw [hw]; exact blk_put HC5.out 3 _ rfl); have HR6 := Aside0.mk (show w6.heap[w.heap.size]? = some (.cells #[.int .u64 0, .slice none 0 0, .int .i64 0, .string ⟨#[]⟩] 77 (0, 0)) by rw [hw]; exact blk_far HR5.out (by have := HSZ.out; show w.heap.size ≠ w1.heap.size; omega) _); have HO6 := Aside0.mk (show Kd.R (Kd.int .u64) 65 w6 w.heap.size (fun k_ => k_ ≠ w.heap.size + 1 ∧ k_ ≠ w1.heap.size) (.slice Ap ps.length cp) ps by rw [hw]; exact Kd.R_far HO5.out (fun k_ hk => hk.2) _); have HB6 := Aside0.mk (show Below w.heap.size w w6 by rw [hw]; exact HB5.out.setCell (by have := HSZ.out; show w.heap.size ≤ w1.heap.size; omega) _); clear hw hx5 hf5 hcv; have hy0 : w6.cell? ⟨w1.heap.size, 0, none⟩ = some (.int .u64 tree) := (blk_cell HC6.out 0).trans rfl; have hy1 : w6.cell? ⟨w1.heap.size, 1, none⟩ = some (.slice Ap ps.length cp) := (blk_cell HC6.out 1).trans rfl; have hy2 : w6.cell? ⟨w1.heap.size, 2, none⟩ = some (.int .i64 date) := (blk_cell HC6.out 2).trans rfl; have hy3 : w6.cell? ⟨w1.heap.size, 3, none⟩ = some (.string note) := (blk_cell HC6.out 3).trans rfl))
            | (go_at_call 30; go_loud (refine Calls.mono (object_Commit.calls k tree _ cp ps date note bb b2 w6 (Kd.R_reads' HO6.out).2.2 (Kd.R_reads' HO6.out).2.1 HT.out) ?_; rintro e w7 ⟨v7, rfl, ho, hb⟩; clear hy0 hy1 hy2 hy3; have HB7 := Aside0.mk (below_step HB6.out hb); have HO7 := Aside0.mk (Kd.R_below HO6.out hb); have HC7 := Aside0.mk (blk_below HC6.out hb); have HR7 := Aside0.mk (blk_below HR6.out hb); obtain ⟨A9, c9, q1, q2, q3, q4⟩ := HS6.out; have HG7 := Aside0.mk (blk_below q1 hb); clear q1 q2 q3 q4 ho hb; have hz0 : w7.cell? ⟨w.heap.size + 1, 0, none⟩ = some (.slice A9 l5.length c9) := (blk_cell HG7.out 0).trans rfl; have hz1 : w7.cell? ⟨w.heap.size + 1, 1, none⟩ = some (.bool false) := (blk_cell HG7.out 1).trans rfl; have hq0 : w7.cell? ⟨w.heap.size, 0, none⟩ = some (.int .u64 0) := (blk_cell HR7.out 0).trans rfl; have hq1 : w7.cell? ⟨w.heap.size, 1, none⟩ = some (.slice none 0 0) := (blk_cell HR7.out 1).trans rfl; have hq2 : w7.cell? ⟨w.heap.size, 2, none⟩ = some (.int .i64 0) := (blk_cell HR7.out 2).trans rfl; have hq3 : w7.cell? ⟨w.heap.size, 3, none⟩ = some (.string ⟨#[]⟩) := (blk_cell HR7.out 3).trans rfl; have hp0 : w7.cell? ⟨w1.heap.size, 0, none⟩ = some (.int .u64 tree) := (blk_cell HC7.out 0).trans rfl; have hp1 : w7.cell? ⟨w1.heap.size, 1, none⟩ = some (.slice Ap ps.length cp) := (blk_cell HC7.out 1).trans rfl; have hp2 : w7.cell? ⟨w1.heap.size, 2, none⟩ = some (.int .i64 date) := (blk_cell HC7.out 2).trans rfl; have hp3 : w7.cell? ⟨w1.heap.size, 3, none⟩ = some (.string note) := (blk_cell HC7.out 3).trans rfl; have hfr : ∀ i, w7.frozen? ⟨w.heap.size, i, none⟩ = false := fun i => blk_frozen HR7.out i)))
          refine bodyPost_ret (results_ct rfl _ _ w.heap.size 77 #[.int .u64 0, .slice none 0 0, .int .i64 0, .string (⟨#[]⟩ : ByteArray)] (0, 0) _ rfl (by refine blk_put (cs := #[.int .u64 0, .slice none 0 0, .int .i64 0, .string (⟨#[]⟩ : ByteArray)]) ?_ 3 _ rfl; refine blk_put (cs := #[.int .u64 0, .slice none 0 0, .int .i64 0, .string (⟨#[]⟩ : ByteArray)]) ?_ 2 _ rfl; refine blk_put (cs := #[.int .u64 0, .slice none 0 0, .int .i64 0, .string (⟨#[]⟩ : ByteArray)]) ?_ 1 _ rfl; refine blk_put (cs := #[.int .u64 0, .slice none 0 0, .int .i64 0, .string (⟨#[]⟩ : ByteArray)]) ?_ 0 _ rfl; exact HR7.out) Try.underlying77 rfl (by kernel_rfl)) rfl ?_
          exact ⟨_, rfl, Kd.R_nil _ _ _ _ _, ((((HB7.out.setCell (Nat.le_refl _) _).setCell (Nat.le_refl _) _).setCell (Nat.le_refl _) _).setCell (Nat.le_refl _) _)⟩
        · rw [if_neg (by simp), if_neg q1, if_neg q2] at h3
          have qd1 : decide (0 < (l5.length : Int)) = false := decide_eq_false (by omega)
          have qd2 : decide (0 < l5.length) = false := decide_eq_false q1
          have qd3 : (b2 == 0) = false := beq_eq_false_iff_ne.mpr q2
          have qd4 : (b2 != 0) = true := bne_iff_ne.mpr q2
          simp only [Option.some.injEq, Prod.mk.injEq] at h3
          obtain ⟨rfl, rfl, rfl, rfl, rfl⟩ := h3
          go_wp2_with (first
            | (go_at_call 51; go_loud (refine Calls.mono HE3.out ?_; rintro e w2 ⟨rfl, hs, hb, hk⟩; have HS2 := Aside0.mk hs; have HB2 := Aside0.mk hb; have HO2 := Aside0.mk (Kd.R_kept HO.out hk (fun _ h => h.1)); have HC2 := Aside0.mk (blk_kept HC.out hk (fun e => NE1.out e.symm)); have HR2 := Aside0.mk (blk_kept HR.out hk (fun e => NE2.out e.symm)); have hx2 : w2.cell? ⟨w1.heap.size, 2, none⟩ = some (.int .i64 0) := (blk_cell HC2.out 2).trans rfl; have hf2 : w2.frozen? ⟨w1.heap.size, 2, none⟩ = false := blk_frozen HC2.out 2; clear hs hb hk))
            | ((with_reducible refine gate_store (t := 2) (p := 25) rfl ?_); go_loud (refine store_event (t := 2) (p := 25) (v := ?vo1) (w1 := (w2.setCell ⟨w1.heap.size, 2, none⟩ (.int .i64 date))) ?hg ?ho ?hn ?hr ?_; (case ho => rfl); (case hg => rfl); (case hn => rfl); (case hr => first | (go_simp; done) | (go_simp; rfl)); intro w3 hw; have HS3 : Aside0 (IsRd w w3 (w.heap.size + 1) l3 b3) := ⟨by rw [hw]; obtain ⟨A5, c5, q1, q2, q3, q4⟩ := HS2.out; exact ⟨A5, c5, blk_far q1 NE1.out _, q2, q3, q4⟩⟩; have HC3 := Aside0.mk (show w3.heap[w1.heap.size]? = some (.cells #[.int .u64 tree, .slice Ap ps.length cp, .int .i64 date, .string ⟨#[]⟩] 77 (0, 0)) by rw [hw]; exact blk_put HC2.out 2 _ rfl); have HR3 := Aside0.mk (show w3.heap[w.heap.size]? = some (.cells #[.int .u64 0, .slice none 0 0, .int .i64 0, .string ⟨#[]⟩] 77 (0, 0)) by rw [hw]; exact blk_far HR2.out (by have := HSZ.out; show w.heap.size ≠ w1.heap.size; omega) _); have HO3 := Aside0.mk (show Kd.R (Kd.int .u64) 65 w3 w.heap.size (fun k_ => k_ ≠ w.heap.size + 1 ∧ k_ ≠ w1.heap.size) (.slice Ap ps.length cp) ps by rw [hw]; exact Kd.R_far HO2.out (fun k_ hk => hk.2) _); have HB3 := Aside0.mk (show Below w.heap.size w w3 by rw [hw]; exact HB2.out.setCell (by have := HSZ.out; show w.heap.size ≤ w1.heap.size; omega) _); clear hw hx2 hf2))
            | (go_at_call 50; go_loud (refine Calls.mono (HE4.out _ HB3.out HS3.out) ?_; rintro e w4 ⟨rfl, hs, hb, hk⟩; have HS4 := Aside0.mk hs; have HB4 := Aside0.mk hb; have HO4 := Aside0.mk (Kd.R_kept HO3.out hk (fun _ h => h.1)); have HC4 := Aside0.mk (blk_kept HC3.out hk (fun e => NE1.out e.symm)); have HR4 := Aside0.mk (blk_kept HR3.out hk (fun e => NE2.out e.symm)); clear hs hb hk))
            | (go_at_call 49; go_loud (refine Calls.mono (HE5.out _ HB4.out HS4.out) ?_; rintro e w5 ⟨A2, c2, rfl, hl2, hC2, hs, hb, hk⟩; have HS5 := Aside0.mk hs; have HB5 := Aside0.mk hb; have HO5 := Aside0.mk (Kd.R_kept HO4.out hk (fun _ h => h.1)); have HC5 := Aside0.mk (blk_kept HC4.out hk (fun e => NE1.out e.symm)); have HR5 := Aside0.mk (blk_kept HR4.out hk (fun e => NE2.out e.symm)); have hcv := Kd.C_string (P := Try.prog) (A := A2) (c := c2) Try.underlying53 Try.underlying5 Try.underlying9 (Kd.C_below hC2 hb); rw [HP.out] at hcv; have hx5 : w5.cell? ⟨w1.heap.size, 3, none⟩ = some (.string ⟨#[]⟩) := (blk_cell HC5.out 3).trans rfl; have hf5 : w5.frozen? ⟨w1.heap.size, 3, none⟩ = false := blk_frozen HC5.out 3; clear hs hb hk hC2 hl2))
            | ((with_reducible refine gate_store (t := 9) (p := 29) rfl ?_); go_loud (refine store_event (t := 9) (p := 29) (v := ?vo2) (w1 := (w5.setCell ⟨w1.heap.size, 3, none⟩ (.string note))) ?hg ?ho ?hn ?hr ?_; (case ho => rfl); (case hg => rfl); (case hn => rfl); (case hr => first | (go_simp; done) | (go_simp; rfl)); intro w6 hw; have HS6 : Aside0 (IsRd w w6 (w.heap.size + 1) l5 false) := ⟨by rw [hw]; obtain ⟨A5, c5, q1, q2, q3, q4⟩ := HS5.out; exact ⟨A5, c5, blk_far q1 NE1.out _, q2, q3, q4⟩⟩; have HC6 := Aside0.mk (show w6.heap[w1.heap.size]? = some (.cells #[.int .u64 tree, .slice Ap ps.length cp, .int .i64 date, .string note] 77 (0, 0)) by rw [hw]; exact blk_put HC5.out 3 _ rfl); have HR6 := Aside0.mk (show w6.heap[w.heap.size]? = some (.cells #[.int .u64 0, .slice none 0 0, .int .i64 0, .string ⟨#[]⟩] 77 (0, 0)) by rw [hw]; exact blk_far HR5.out (by have := HSZ.out; show w.heap.size ≠ w1.heap.size; omega) _); have HO6 := Aside0.mk (show Kd.R (Kd.int .u64) 65 w6 w.heap.size (fun k_ => k_ ≠ w.heap.size + 1 ∧ k_ ≠ w1.heap.size) (.slice Ap ps.length cp) ps by rw [hw]; exact Kd.R_far HO5.out (fun k_ hk => hk.2) _); have HB6 := Aside0.mk (show Below w.heap.size w w6 by rw [hw]; exact HB5.out.setCell (by have := HSZ.out; show w.heap.size ≤ w1.heap.size; omega) _); clear hw hx5 hf5 hcv; have hy0 : w6.cell? ⟨w1.heap.size, 0, none⟩ = some (.int .u64 tree) := (blk_cell HC6.out 0).trans rfl; have hy1 : w6.cell? ⟨w1.heap.size, 1, none⟩ = some (.slice Ap ps.length cp) := (blk_cell HC6.out 1).trans rfl; have hy2 : w6.cell? ⟨w1.heap.size, 2, none⟩ = some (.int .i64 date) := (blk_cell HC6.out 2).trans rfl; have hy3 : w6.cell? ⟨w1.heap.size, 3, none⟩ = some (.string note) := (blk_cell HC6.out 3).trans rfl))
            | (go_at_call 30; go_loud (refine Calls.mono (object_Commit.calls k tree _ cp ps date note bb b2 w6 (Kd.R_reads' HO6.out).2.2 (Kd.R_reads' HO6.out).2.1 HT.out) ?_; rintro e w7 ⟨v7, rfl, ho, hb⟩; clear hy0 hy1 hy2 hy3; have HB7 := Aside0.mk (below_step HB6.out hb); have HO7 := Aside0.mk (Kd.R_below HO6.out hb); have HC7 := Aside0.mk (blk_below HC6.out hb); have HR7 := Aside0.mk (blk_below HR6.out hb); obtain ⟨A9, c9, q1, q2, q3, q4⟩ := HS6.out; have HG7 := Aside0.mk (blk_below q1 hb); clear q1 q2 q3 q4 ho hb; have hz0 : w7.cell? ⟨w.heap.size + 1, 0, none⟩ = some (.slice A9 l5.length c9) := (blk_cell HG7.out 0).trans rfl; have hz1 : w7.cell? ⟨w.heap.size + 1, 1, none⟩ = some (.bool false) := (blk_cell HG7.out 1).trans rfl; have hq0 : w7.cell? ⟨w.heap.size, 0, none⟩ = some (.int .u64 0) := (blk_cell HR7.out 0).trans rfl; have hq1 : w7.cell? ⟨w.heap.size, 1, none⟩ = some (.slice none 0 0) := (blk_cell HR7.out 1).trans rfl; have hq2 : w7.cell? ⟨w.heap.size, 2, none⟩ = some (.int .i64 0) := (blk_cell HR7.out 2).trans rfl; have hq3 : w7.cell? ⟨w.heap.size, 3, none⟩ = some (.string ⟨#[]⟩) := (blk_cell HR7.out 3).trans rfl; have hp0 : w7.cell? ⟨w1.heap.size, 0, none⟩ = some (.int .u64 tree) := (blk_cell HC7.out 0).trans rfl; have hp1 : w7.cell? ⟨w1.heap.size, 1, none⟩ = some (.slice Ap ps.length cp) := (blk_cell HC7.out 1).trans rfl; have hp2 : w7.cell? ⟨w1.heap.size, 2, none⟩ = some (.int .i64 date) := (blk_cell HC7.out 2).trans rfl; have hp3 : w7.cell? ⟨w1.heap.size, 3, none⟩ = some (.string note) := (blk_cell HC7.out 3).trans rfl; have hfr : ∀ i, w7.frozen? ⟨w.heap.size, i, none⟩ = false := fun i => blk_frozen HR7.out i)))
          refine bodyPost_ret (results_ct rfl _ _ w.heap.size 77 #[.int .u64 0, .slice none 0 0, .int .i64 0, .string (⟨#[]⟩ : ByteArray)] (0, 0) _ rfl (by refine blk_put (cs := #[.int .u64 0, .slice none 0 0, .int .i64 0, .string (⟨#[]⟩ : ByteArray)]) ?_ 3 _ rfl; refine blk_put (cs := #[.int .u64 0, .slice none 0 0, .int .i64 0, .string (⟨#[]⟩ : ByteArray)]) ?_ 2 _ rfl; refine blk_put (cs := #[.int .u64 0, .slice none 0 0, .int .i64 0, .string (⟨#[]⟩ : ByteArray)]) ?_ 1 _ rfl; refine blk_put (cs := #[.int .u64 0, .slice none 0 0, .int .i64 0, .string (⟨#[]⟩ : ByteArray)]) ?_ 0 _ rfl; exact HR7.out) Try.underlying77 rfl (by kernel_rfl)) rfl ?_
          exact ⟨_, rfl, Kd.R_nil _ _ _ _ _, ((((HB7.out.setCell (Nat.le_refl _) _).setCell (Nat.le_refl _) _).setCell (Nat.le_refl _) _).setCell (Nat.le_refl _) _)⟩
        · subst q2
          rw [if_neg (by simp), if_neg q1, if_pos rfl] at h3
          have qd1 : decide (0 < (l5.length : Int)) = false := decide_eq_false (by omega)
          have qd2 : decide (0 < l5.length) = false := decide_eq_false q1
          simp only [Option.some.injEq, Prod.mk.injEq] at h3
          obtain ⟨rfl, rfl, rfl, rfl, rfl⟩ := h3
          go_wp2_with (first
            | (go_at_call 51; go_loud (refine Calls.mono HE3.out ?_; rintro e w2 ⟨rfl, hs, hb, hk⟩; have HS2 := Aside0.mk hs; have HB2 := Aside0.mk hb; have HO2 := Aside0.mk (Kd.R_kept HO.out hk (fun _ h => h.1)); have HC2 := Aside0.mk (blk_kept HC.out hk (fun e => NE1.out e.symm)); have HR2 := Aside0.mk (blk_kept HR.out hk (fun e => NE2.out e.symm)); have hx2 : w2.cell? ⟨w1.heap.size, 2, none⟩ = some (.int .i64 0) := (blk_cell HC2.out 2).trans rfl; have hf2 : w2.frozen? ⟨w1.heap.size, 2, none⟩ = false := blk_frozen HC2.out 2; clear hs hb hk))
            | ((with_reducible refine gate_store (t := 2) (p := 25) rfl ?_); go_loud (refine store_event (t := 2) (p := 25) (v := ?vo1) (w1 := (w2.setCell ⟨w1.heap.size, 2, none⟩ (.int .i64 date))) ?hg ?ho ?hn ?hr ?_; (case ho => rfl); (case hg => rfl); (case hn => rfl); (case hr => first | (go_simp; done) | (go_simp; rfl)); intro w3 hw; have HS3 : Aside0 (IsRd w w3 (w.heap.size + 1) l3 b3) := ⟨by rw [hw]; obtain ⟨A5, c5, q1, q2, q3, q4⟩ := HS2.out; exact ⟨A5, c5, blk_far q1 NE1.out _, q2, q3, q4⟩⟩; have HC3 := Aside0.mk (show w3.heap[w1.heap.size]? = some (.cells #[.int .u64 tree, .slice Ap ps.length cp, .int .i64 date, .string ⟨#[]⟩] 77 (0, 0)) by rw [hw]; exact blk_put HC2.out 2 _ rfl); have HR3 := Aside0.mk (show w3.heap[w.heap.size]? = some (.cells #[.int .u64 0, .slice none 0 0, .int .i64 0, .string ⟨#[]⟩] 77 (0, 0)) by rw [hw]; exact blk_far HR2.out (by have := HSZ.out; show w.heap.size ≠ w1.heap.size; omega) _); have HO3 := Aside0.mk (show Kd.R (Kd.int .u64) 65 w3 w.heap.size (fun k_ => k_ ≠ w.heap.size + 1 ∧ k_ ≠ w1.heap.size) (.slice Ap ps.length cp) ps by rw [hw]; exact Kd.R_far HO2.out (fun k_ hk => hk.2) _); have HB3 := Aside0.mk (show Below w.heap.size w w3 by rw [hw]; exact HB2.out.setCell (by have := HSZ.out; show w.heap.size ≤ w1.heap.size; omega) _); clear hw hx2 hf2))
            | (go_at_call 50; go_loud (refine Calls.mono (HE4.out _ HB3.out HS3.out) ?_; rintro e w4 ⟨rfl, hs, hb, hk⟩; have HS4 := Aside0.mk hs; have HB4 := Aside0.mk hb; have HO4 := Aside0.mk (Kd.R_kept HO3.out hk (fun _ h => h.1)); have HC4 := Aside0.mk (blk_kept HC3.out hk (fun e => NE1.out e.symm)); have HR4 := Aside0.mk (blk_kept HR3.out hk (fun e => NE2.out e.symm)); clear hs hb hk))
            | (go_at_call 49; go_loud (refine Calls.mono (HE5.out _ HB4.out HS4.out) ?_; rintro e w5 ⟨A2, c2, rfl, hl2, hC2, hs, hb, hk⟩; have HS5 := Aside0.mk hs; have HB5 := Aside0.mk hb; have HO5 := Aside0.mk (Kd.R_kept HO4.out hk (fun _ h => h.1)); have HC5 := Aside0.mk (blk_kept HC4.out hk (fun e => NE1.out e.symm)); have HR5 := Aside0.mk (blk_kept HR4.out hk (fun e => NE2.out e.symm)); have hcv := Kd.C_string (P := Try.prog) (A := A2) (c := c2) Try.underlying53 Try.underlying5 Try.underlying9 (Kd.C_below hC2 hb); rw [HP.out] at hcv; have hx5 : w5.cell? ⟨w1.heap.size, 3, none⟩ = some (.string ⟨#[]⟩) := (blk_cell HC5.out 3).trans rfl; have hf5 : w5.frozen? ⟨w1.heap.size, 3, none⟩ = false := blk_frozen HC5.out 3; clear hs hb hk hC2 hl2))
            | ((with_reducible refine gate_store (t := 9) (p := 29) rfl ?_); go_loud (refine store_event (t := 9) (p := 29) (v := ?vo2) (w1 := (w5.setCell ⟨w1.heap.size, 3, none⟩ (.string note))) ?hg ?ho ?hn ?hr ?_; (case ho => rfl); (case hg => rfl); (case hn => rfl); (case hr => first | (go_simp; done) | (go_simp; rfl)); intro w6 hw; have HS6 : Aside0 (IsRd w w6 (w.heap.size + 1) l5 false) := ⟨by rw [hw]; obtain ⟨A5, c5, q1, q2, q3, q4⟩ := HS5.out; exact ⟨A5, c5, blk_far q1 NE1.out _, q2, q3, q4⟩⟩; have HC6 := Aside0.mk (show w6.heap[w1.heap.size]? = some (.cells #[.int .u64 tree, .slice Ap ps.length cp, .int .i64 date, .string note] 77 (0, 0)) by rw [hw]; exact blk_put HC5.out 3 _ rfl); have HR6 := Aside0.mk (show w6.heap[w.heap.size]? = some (.cells #[.int .u64 0, .slice none 0 0, .int .i64 0, .string ⟨#[]⟩] 77 (0, 0)) by rw [hw]; exact blk_far HR5.out (by have := HSZ.out; show w.heap.size ≠ w1.heap.size; omega) _); have HO6 := Aside0.mk (show Kd.R (Kd.int .u64) 65 w6 w.heap.size (fun k_ => k_ ≠ w.heap.size + 1 ∧ k_ ≠ w1.heap.size) (.slice Ap ps.length cp) ps by rw [hw]; exact Kd.R_far HO5.out (fun k_ hk => hk.2) _); have HB6 := Aside0.mk (show Below w.heap.size w w6 by rw [hw]; exact HB5.out.setCell (by have := HSZ.out; show w.heap.size ≤ w1.heap.size; omega) _); clear hw hx5 hf5 hcv; have hy0 : w6.cell? ⟨w1.heap.size, 0, none⟩ = some (.int .u64 tree) := (blk_cell HC6.out 0).trans rfl; have hy1 : w6.cell? ⟨w1.heap.size, 1, none⟩ = some (.slice Ap ps.length cp) := (blk_cell HC6.out 1).trans rfl; have hy2 : w6.cell? ⟨w1.heap.size, 2, none⟩ = some (.int .i64 date) := (blk_cell HC6.out 2).trans rfl; have hy3 : w6.cell? ⟨w1.heap.size, 3, none⟩ = some (.string note) := (blk_cell HC6.out 3).trans rfl))
            | (go_at_call 30; go_loud (refine Calls.mono (object_Commit.calls k tree _ cp ps date note bb 0 w6 (Kd.R_reads' HO6.out).2.2 (Kd.R_reads' HO6.out).2.1 HT.out) ?_; rintro e w7 ⟨v7, rfl, ho, hb⟩; clear hy0 hy1 hy2 hy3; have HB7 := Aside0.mk (below_step HB6.out hb); have HO7 := Aside0.mk (Kd.R_below HO6.out hb); have HC7 := Aside0.mk (blk_below HC6.out hb); have HR7 := Aside0.mk (blk_below HR6.out hb); obtain ⟨A9, c9, q1, q2, q3, q4⟩ := HS6.out; have HG7 := Aside0.mk (blk_below q1 hb); clear q1 q2 q3 q4 ho hb; have hz0 : w7.cell? ⟨w.heap.size + 1, 0, none⟩ = some (.slice A9 l5.length c9) := (blk_cell HG7.out 0).trans rfl; have hz1 : w7.cell? ⟨w.heap.size + 1, 1, none⟩ = some (.bool false) := (blk_cell HG7.out 1).trans rfl; have hq0 : w7.cell? ⟨w.heap.size, 0, none⟩ = some (.int .u64 0) := (blk_cell HR7.out 0).trans rfl; have hq1 : w7.cell? ⟨w.heap.size, 1, none⟩ = some (.slice none 0 0) := (blk_cell HR7.out 1).trans rfl; have hq2 : w7.cell? ⟨w.heap.size, 2, none⟩ = some (.int .i64 0) := (blk_cell HR7.out 2).trans rfl; have hq3 : w7.cell? ⟨w.heap.size, 3, none⟩ = some (.string ⟨#[]⟩) := (blk_cell HR7.out 3).trans rfl; have hp0 : w7.cell? ⟨w1.heap.size, 0, none⟩ = some (.int .u64 tree) := (blk_cell HC7.out 0).trans rfl; have hp1 : w7.cell? ⟨w1.heap.size, 1, none⟩ = some (.slice Ap ps.length cp) := (blk_cell HC7.out 1).trans rfl; have hp2 : w7.cell? ⟨w1.heap.size, 2, none⟩ = some (.int .i64 date) := (blk_cell HC7.out 2).trans rfl; have hp3 : w7.cell? ⟨w1.heap.size, 3, none⟩ = some (.string note) := (blk_cell HC7.out 3).trans rfl; have hfr : ∀ i, w7.frozen? ⟨w.heap.size, i, none⟩ = false := fun i => blk_frozen HR7.out i)))
          have hres : ((((w7.setCell ⟨w.heap.size, 0, none⟩ (.int .u64 tree)).setCell ⟨w.heap.size, 1, none⟩ (.slice Ap ps.length cp)).setCell ⟨w.heap.size, 2, none⟩ (.int .i64 date)).setCell ⟨w.heap.size, 3, none⟩ (.string note)).heap[w.heap.size]? = some (.cells #[.int .u64 tree, .slice Ap ps.length cp, .int .i64 date, .string note] 77 (0, 0)) := by refine blk_put (cs := #[.int .u64 tree, .slice Ap ps.length cp, .int .i64 date, .string (⟨#[]⟩ : ByteArray)]) ?_ 3 _ rfl; refine blk_put (cs := #[.int .u64 tree, .slice Ap ps.length cp, .int .i64 0, .string (⟨#[]⟩ : ByteArray)]) ?_ 2 _ rfl; refine blk_put (cs := #[.int .u64 tree, .slice none 0 0, .int .i64 0, .string (⟨#[]⟩ : ByteArray)]) ?_ 1 _ rfl; refine blk_put (cs := #[.int .u64 0, .slice none 0 0, .int .i64 0, .string (⟨#[]⟩ : ByteArray)]) ?_ 0 _ rfl; exact HR7.out
          refine bodyPost_ret (results_ct rfl _ _ w.heap.size 77 #[.int .u64 tree, .slice Ap ps.length cp, .int .i64 date, .string note] (0, 0) _ rfl hres Try.underlying77 rfl (by kernel_rfl)) rfl ?_
          exact ⟨_, rfl, Kd.R_mono (Kd.R_far (p := ⟨w.heap.size, 3, none⟩) (Kd.R_far (p := ⟨w.heap.size, 2, none⟩) (Kd.R_far (p := ⟨w.heap.size, 1, none⟩) (Kd.R_far (p := ⟨w.heap.size, 0, none⟩) (Kd.R_types HO7.out HR7.out (by decide)) (fun _ hk => hk.2) (.int .u64 tree)) (fun _ hk => hk.2) (.slice Ap ps.length cp)) (fun _ hk => hk.2) (.int .i64 date)) (fun _ hk => hk.2) (.string note)) (fun _ hk => trivial), ((((HB7.out.setCell (Nat.le_refl _) _).setCell (Nat.le_refl _) _).setCell (Nat.le_refl _) _).setCell (Nat.le_refl _) _)⟩
      · rw [if_neg c4] at hend
        exact absurd hend (by simp)
    | succ kq =>
      have hd : decide (((M - (kq + 1) : Nat) : Int) < m) = true := decide_eq_true (by have := HMM.out; omega)
      have hi : wrap64 (((M - (kq + 1) : Nat) : Int) + 1) = ((M - kq : Nat) : Int) := by have := HM9.out; unfold wrap64; omega
      go_wp2
      have HC3 := Aside0.mk hcp
      have hcell : wr.cell? ⟨w1.heap.size, 1, none⟩ = some vp := (blk_cell hcp 1).trans rfl
      obtain ⟨Ap, cp, ep⟩ := Kd.R_slice HO.out
      subst ep
      refine start_ (n := 7) (S := fun w' => w'.cell? ⟨w1.heap.size, 1, none⟩ = some (.slice Ap ps.length cp)) (ds := [6]) #[false, false, false, false, false, false, false] (by kernel_rfl) rfl rfl hcell (fun hHeld => ?_)
      have HS := Aside0.mk (show IsRd w wr.drew (w.heap.size + 1) l bad from HS.out)
      have HO := Aside0.mk (Kd.R_drew HO.out)
      have HB := Aside0.mk (below_drew1 HB.out)
      have HR := Aside0.mk (show wr.drew.heap[w.heap.size]? = _ from hrp)
      have HC3 := Aside0.mk (show wr.drew.heap[w1.heap.size]? = _ from HC3.out)
      clear hcp hrp hcell
      generalize wr.drew = w5 at HS HO HB HR HC3 hHeld ⊢
      refine pure_ (i := 0) (N := some 16) (v := ?_) (a' := ?_) #[true, false, false, false, false, false, false] rfl rfl (by kernel_rfl) (fun _ _ _ h => h) (Or.inl ⟨by rfl, ?_⟩) ?_ ?_
      rotate_left
      · intro w'
        go_simp
        with_reducible rfl
      rotate_left
      · simp only [Act.put, List.setIfInBounds_toArray, List.set_cons_zero, List.set_cons_succ, i64_w, i32_w]
        rfl
      refine take_ (i := 1) (N := some 17) (v := ?_) (a' := ?_) #[true, true, false, false, false, false, false] rfl rfl (by kernel_rfl) (fun _ _ _ h => h) (Or.inl ⟨by rfl, ?_⟩) hHeld ?_ ?_
      rotate_left
      · intro w' s0
        go_simp
        with_reducible rfl
      rotate_left
      · simp only [Act.put, List.setIfInBounds_toArray, List.set_cons_zero, List.set_cons_succ, i64_w, i32_w]
        rfl
      refine one_ (i := 2) (N := some 18) #[true, true, true, false, false, false, false] rfl rfl (by kernel_rfl) (by decide) (fun K hK => ?_)
      refine goes_ Try.func51 (by kernel_rfl) rfl #[.pointer (some ⟨w.heap.size + 1, 0, none⟩)] (by rfl) rfl rfl (by (try simp only [List.map_toArray, List.map_cons, List.map_nil]); first | done | rfl) ?_
      refine Calls.mono (eight_calls w w5 (w.heap.size + 1) l bad HB.out HS.out) ?_
      rintro e w6 ⟨rfl, hs, hb, hk⟩
      refine ⟨_, rfl, ?_⟩
      have hne := blk_ne (HS.out.choose_spec.choose_spec.1) HC3.out (by decide)
      have hne2 := blk_ne (HS.out.choose_spec.choose_spec.1) HR.out (by decide)
      have HO6 := Aside0.mk (Kd.R_kept HO.out hk (fun _ hk' => hk'.1))
      have HC6 := Aside0.mk (blk_kept HC3.out hk (fun e => hne e.symm))
      have HR6 := Aside0.mk (blk_kept HR.out hk (fun e => hne2 e.symm))
      have HS6 := Aside0.mk hs
      have HB6 := Aside0.mk hb
      clear hs hb hk hne hne2
      refine hK.out _ _ ((blk_cell HC6.out 1).trans rfl) (fun hHeld => ?_)
      clear hK K
      refine norm_ (a' := ?_) ?_ ?_
      rotate_left
      · show Act.put _ (some 18) _ = _
        simp only [Act.put, List.setIfInBounds_toArray, List.set_cons_zero, List.set_cons_succ, i64_w, i32_w]
        rfl
      refine one_ (i := 3) (N := some 19) #[true, true, true, true, false, false, false] rfl rfl (by kernel_rfl) (by decide) (fun K hK => ?_)
      refine value_ (w1 := ?_) (v := ?_) (by rfl) rfl ?_ ?_
      rotate_left 2
      · go_simp
        constructor
        · rfl
        · rfl
      refine hK.out _ _ ((blk_cell (blk_alloc HC6.out _) 1).trans rfl) (fun hHeld => ?_)
      clear hK K
      refine norm_ (a' := ?_) ?_ ?_
      rotate_left
      · show Act.put _ (some 19) _ = _
        simp only [Act.put, List.setIfInBounds_toArray, List.set_cons_zero, List.set_cons_succ, i64_w, i32_w]
        rfl
      refine one_ (i := 4) (N := some 20) #[true, true, true, true, true, false, false] rfl rfl (by kernel_rfl) (by decide) (fun K hK => ?_)
      refine Kd.R_append_step (Kd.int .u64) (w0 := w) w.heap.size (by rfl) (.tmp 17) (.tmp 19) 75 65 (.int .u64 0) 8 rfl Try.underlying75 info65 rfl (by decide) (by omega) (.slice Ap ps.length cp) ps (eightR l bad) [.int .u64 (eightR l bad)] (fun k_ => k_ ≠ w.heap.size + 1 ∧ k_ ≠ w1.heap.size) (fun _ => False) rfl rfl ?aP (fun _ hk => hk.elim) ?aF ?aO ?aB ?aS ?aL ?_
      (case aP => exact rfl)
      (case aB => exact HB6.out)
      (case aF => exact (fun k_ hk => by have e1 := blk_lt HS6.out.choose_spec.choose_spec.1; have e2 := blk_lt HC6.out; omega))
      (case aO => exact HO6.out)
      (case aS => exact below_size HB6.out)
      (case aL => have := HLEN.out; have := HM9.out; omega)
      intro v7 w7 ho hb hg hat
      obtain ⟨A7, c7, e7⟩ := Kd.R_slice ho
      subst e7
      have HO7 := Aside0.mk ho
      have HB7 := Aside0.mk hb
      have HS7 : Aside0 (IsRd w w7 (w.heap.size + 1) (takeR l bad 8).2.1 (takeR l bad 8).2.2) := (by obtain ⟨A5, c5, q1, q2, q3, q4⟩ := HS6.out; exact ⟨⟨A5, c5, blk_grown q1 hg (Kd.R_ne HO6.out q1 (by decide)), q2, q3, q4⟩⟩)
      have HC7 := Aside0.mk (blk_grown HC6.out hg (Kd.R_ne HO6.out HC6.out (by decide)))
      have HR7 := Aside0.mk (blk_grown HR6.out hg (Kd.R_ne HO6.out HR6.out (by decide)))
      clear ho hb hg hat
      refine hK.out _ _ ((blk_cell HC7.out 1).trans rfl) (fun hHeld => ?_)
      clear hK K
      refine norm_ (a' := ?_) ?_ ?_
      rotate_left
      · show Act.put _ (some 20) _ = _
        simp only [Act.put, List.setIfInBounds_toArray, List.set_cons_zero, List.set_cons_succ, i64_w, i32_w]
        rfl
      refine pure_ (i := 5) (N := some 21) (v := ?_) (a' := ?_) #[true, true, true, true, true, true, false] rfl rfl (by kernel_rfl) (fun _ _ _ h => h) (Or.inl ⟨by rfl, ?_⟩) ?_ ?_
      rotate_left
      · intro w'
        go_simp
        with_reducible rfl
      rotate_left
      · simp only [Act.put, List.setIfInBounds_toArray, List.set_cons_zero, List.set_cons_succ, i64_w, i32_w]
        rfl
      have hx7 : w7.cell? ⟨w1.heap.size, 1, none⟩ = some (.slice Ap ps.length cp) := (blk_cell HC7.out 1).trans rfl
      have hf7 : w7.frozen? ⟨w1.heap.size, 1, none⟩ = false := blk_frozen HC7.out 1
      refine last_ (i := 6) (N := none) #[true, true, true, true, true, true, true] rfl rfl (by kernel_rfl) (by decide) (fun K hK => ?_)
      refine skip_ (w1 := ?_) (by rfl) rfl ?_ ?_
      rotate_left
      · go_simp
        rfl
      refine hK.out _ _ ?_
      clear hK K
      refine done_ (by kernel_rfl) ?_
      try go_wp2
      go_roundg kq
      case measure => omega
      case rel =>
        refine ⟨(takeR l bad 8).2.1, (takeR l bad 8).2.2, ps ++ [eightR l bad], .slice A7 (ps ++ [eightR l bad]).length c7, ?_, ?_, ?_, ?_, ?_, ?_, ?_, ?_, ?_⟩
        · rw [hi]
        · omega
        · exact HA
        · exact ⟨by have := HLEN.out; simp; omega⟩
        · exact ⟨by obtain ⟨A5, c5, q1, q2, q3, q4⟩ := HS7.out; exact ⟨A5, c5, blk_far q1 (blk_ne q1 HC7.out (by decide)) _, q2, q3, q4⟩⟩
        · exact blk_put HC7.out 1 _ (by rw [List.length_append]; rfl)
        · exact blk_far HR7.out (by have := HSZ.out; show w.heap.size ≠ w1.heap.size; omega) _
        · exact ⟨Kd.R_far HO7.out (fun k_ hk => hk.2) _⟩
        · exact ⟨HB7.out.setCell (by have := HSZ.out; show w.heap.size ≤ w1.heap.size; omega) _⟩

/-! ### forebearref07_Value: function 52 -/
def forebearref07_Value.l0 : Nat → ByteArray → Int → Int → Option (Int)
  | 0, _, _, _ => none
  | k + 1, x0, x3, x4 => if x4 < (x0.size : Int) then (if 0 ≤ x4 then (forebearref07_Value.l0 k x0 (IntKind.u64.wrap ((IntKind.u64.wrap (x3 * 256)) + (IntKind.u64.wrap (bt x0 x4)))) (wrap64 (x4 + 1))) else (none)) else (some x3)
def forebearref07_Value.f (k : Nat) (a0 : ByteArray) : Option (Int) := forebearref07_Value.l0 k a0 0 0
theorem forebearref07_Value.mono_l : ∀ k, (∀ y0 y1 y2, LeO (forebearref07_Value.l0 k y0 y1 y2) (forebearref07_Value.l0 (k + 1) y0 y1 y2))
  | 0 => fun _ _ _ r h => by simp [forebearref07_Value.l0] at h
  | k + 1 => by
    have ih0 := forebearref07_Value.mono_l k
    · intro y0 y1 y2
      unfold forebearref07_Value.l0
      repeat' first
      | (with_reducible exact ih0 _ _ _)
      | (with_reducible exact LeO.refl _)
      | (with_reducible exact LeO.none _)
      | (with_reducible refine LeO.ite ?_ ?_)
      | (with_reducible refine LeO.bind ?_ (fun _ => ?_))
      | exact ih0 _ _ _
      | exact LeO.none _
      | refine LeO.ite ?_ ?_
      | refine LeO.bind ?_ (fun _ => ?_)
theorem forebearref07_Value.mono : ∀ a0 k, LeO (forebearref07_Value.f k a0) (forebearref07_Value.f (k + 1) a0) := by
  intro a0 k
  have ih0 := forebearref07_Value.mono_l k
  unfold forebearref07_Value.f
  repeat' first
      | (with_reducible exact ih0 _ _ _)
      | (with_reducible exact LeO.refl _)
      | (with_reducible exact LeO.none _)
      | (with_reducible refine LeO.ite ?_ ?_)
      | (with_reducible refine LeO.bind ?_ (fun _ => ?_))
      | exact ih0 _ _ _
      | exact LeO.none _
      | refine LeO.ite ?_ ?_
      | refine LeO.bind ?_ (fun _ => ?_)
set_option maxHeartbeats 8000000 in
set_option maxRecDepth 100000 in
theorem forebearref07_Value.calls (k : Nat) (a0 : ByteArray) (r : Int) (w : World) (h : forebearref07_Value.f k a0 = some r) :
    Calls Try.prog 52 #[.string a0] w fun e w' => e = .returned (.int .u64 r) ∧ Drawn0 w w' := by
  have H : (forebearref07_Value.l0 k a0 0 0) = some r := h
  clear h
  have H' := Aside0.mk H
  clear H
  go_enter Try.func52, Try.ntmps52
  go_wp2
  go_loopg [3, 4] k (fun kq v3 v4 w' => ∃ (x3_1 : Int) (x4_1 : Int), v3 = .int .u64 x3_1 ∧ v4 = .int .i64 x4_1 ∧ Aside0 (forebearref07_Value.l0 kq a0 x3_1 x4_1 = some r) ∧ Aside0 (kq ≤ k) ∧ Drawn0 w w')
  case atStart => exact ⟨(0), (0), (by first | rfl | (simp; done) | (simp [*]; done)), (by first | rfl | (simp; done) | (simp [*]; done)), H', ⟨Nat.le_refl _⟩, by repeat (first | exact Drawn0.refl _ | apply Drawn0.step)⟩
  case round =>
    clear H'
    obtain ⟨x3_1, x4_1, rfl, rfl, HA, HK1, ⟨m1, rfl⟩⟩ := hrel
    cases gk with
    | zero => exact absurd HA.out (by simp [forebearref07_Value.l0])
    | succ k1 =>
      have H := HA.out
      clear HA
      simp only [forebearref07_Value.l0] at H
      by_cases c2 : x4_1 < (a0.size : Int)
      · rw [if_pos c2] at H
        have c2b0 : decide (x4_1 < (a0.size : Int)) = true := decide_eq_true c2
        clear c2
        by_cases c3 : 0 ≤ x4_1
        · rw [if_pos c3] at H
          have c3b0 : decide (0 ≤ x4_1) = true := decide_eq_true c3
          clear c3
          have H' := Aside0.mk H
          clear H
          have p4 : 0 ≤ (x4_1 : Int) := of_decide_eq_true (by first | (with_reducible assumption) | assumption)
          have q4 : x4_1 < (a0.size : Int) := of_decide_eq_true (by first | (with_reducible assumption) | assumption)
          have hx4 := bt_at a0 x4_1
          replace p4 := eq_true p4
          replace q4 := eq_true q4
          go_wp2
          go_roundg k1
          case measure => have := HK1.out; omega
          case rel => exact ⟨(IntKind.u64.wrap ((IntKind.u64.wrap (x3_1 * 256)) + (IntKind.u64.wrap (bt a0 x4_1)))), (wrap64 (x4_1 + 1)), (by first | rfl | (simp; done) | (simp [*]; done)), (by first | rfl | (simp; done) | (simp [*]; done)), H', ⟨by have := HK1.out; omega⟩, by repeat (first | exact Drawn0.refl _ | apply Drawn0.step)⟩
        · rw [if_neg c3] at H
          exact absurd H (by simp)
      · rw [if_neg c2] at H
        have c2b0 : decide (x4_1 < (a0.size : Int)) = false := decide_eq_false c2
        clear c2
        obtain rfl := Option.some.inj H
        go_wp2
        go_ret
        exact ⟨by first | rfl | (simp; done) | (simp [*]; done), by repeat (first | exact Drawn0.refl _ | apply Drawn0.step)⟩

end Go.Proofs.Ythigjlahanejjaa.MO
