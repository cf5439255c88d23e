/- Laid by this claim's own program (myprint) out of the translation: functions that the laws of the group D reach, each as a plain function, with the proof that the Go code comes to it. No condition. -/
import Derived.Test.YtieodkghfceflaaMDx0
import Derived.Test.YtieodkghfceflaaMDx2
import Derived.Test.YtieodkghfceflaaMDx3
import Derived.Test.YtieodkghfceflaaMDx4
namespace Go.Proofs.Ytieodkghfceflaa.MD
open Go.Proofs.Ytieodkghfceflaa.Opening
open Go.RowKit Go.Proofs.YtieodkghfceflaaW.PrintWords Go.Proofs.YtieodkghfceflaaW.PrintLast Go.Proofs.YtieodkghfceflaaW.PrintMore
attribute [local go_sem] max2_int min2_int max_two min_two max_three min_three max_four min_four   -- for this text's walks alone
set_option linter.unusedVariables false
set_option linter.unusedSimpArgs false

/-! ### forebearref06_Append: function 35 -/
def forebearref06_Append.f (k : Nat) (l0_0 : List (S76)) (a0_1 : Int) (a0_2 : Bool) (a0_3 : Bool) (a0_4 : Int) (a0_5 : Int) (a1 : ByteArray) (a2 : ByteArray) : Option ((List (S76)) × Int × Bool × Bool × Int × Int × Int) := (forebearref06_Data.f k l0_0 a0_1 a0_2 a0_3 a0_4 a0_5 a1).bind fun t192 => ((forebearref06_lay.f k l0_0 a0_1 a0_2 a0_3 a0_4 a0_5 a1 t192 a2).bind fun bt193 => (some (bt193.1, bt193.2.1, bt193.2.2.1, bt193.2.2.2.1, bt193.2.2.2.2.1, bt193.2.2.2.2.2.1, bt193.2.2.2.2.2.2)))
theorem forebearref06_Append.mono : ∀ a0 a1 a2 a3 a4 a5 a6 a7 k, LeO (forebearref06_Append.f k a0 a1 a2 a3 a4 a5 a6 a7) (forebearref06_Append.f (k + 1) a0 a1 a2 a3 a4 a5 a6 a7) := by
  intro a0 a1 a2 a3 a4 a5 a6 a7 k
  unfold forebearref06_Append.f
  repeat' first
      | (with_reducible exact forebearref06_Data.mono _ _ _ _ _ _ _ _)
      | (with_reducible exact forebearref06_lay.mono _ _ _ _ _ _ _ _ _ _)
      | (with_reducible exact LeO.refl _)
      | (with_reducible exact LeO.none _)
      | (with_reducible refine LeO.ite ?_ ?_)
      | (with_reducible refine LeO.bind ?_ (fun _ => ?_))
      | exact forebearref06_Data.mono _ _ _ _ _ _ _ _
      | exact forebearref06_lay.mono _ _ _ _ _ _ _ _ _ _
      | exact LeO.none _
      | refine LeO.ite ?_ ?_
      | refine LeO.bind ?_ (fun _ => ?_)
def forebearref06_Append.T1 : Bool × List (List Nat × List Nat) := (true, [([], []), ([], []), ([], []), ([], []), ([2, 3], [2, 3]), ([], []), ([0, 1, 4, 5, 4], [0, 1, 4, 5]), ([6], [6]), ([6], [6]), ([7, 6, 0, 1, 2, 3, 4, 5, 6, 7, 8], [7]), ([8, 9, 0, 1, 2, 3, 4, 5, 6, 7, 8, 9], [8])])
def forebearref06_Append.B1 : List Nat := [0, 0, 0, 0, 12, 0, 63, 127, 127, 511, 1023]
theorem forebearref06_Append.tab1 : rtab .any (opsOf Try.f35 1) = forebearref06_Append.T1 := by kernel_rfl
theorem forebearref06_Append.bits1 : waitsOk forebearref06_Append.T1.2 forebearref06_Append.B1 = true := by kernel_rfl
set_option maxHeartbeats 8000000 in
set_option maxRecDepth 100000 in
theorem forebearref06_Append.calls (k : Nat) (P0_0_ : Nat → Prop) (u9000_ : Value) (l0_0 : List (S76)) (a0_1 : Int) (a0_2 : Bool) (a0_3 : Bool) (a0_4 : Int) (a0_5 : Int) (a1 : ByteArray) (a2 : ByteArray) (r1 : List (S76)) (r2 : Int) (r3 : Bool) (r4 : Bool) (r5 : Int) (r6 : Int) (r7 : Int) (w0 w : World) (hB : Below w0.heap.size w0 w) (ho0_0 : Kd.R k76 76 w w0.heap.size P0_0_ u9000_ l0_0) (h : forebearref06_Append.f k l0_0 a0_1 a0_2 a0_3 a0_4 a0_5 a1 a2 = some (r1, r2, r3, r4, r5, r6, r7)) :
    Calls Try.prog 35 #[.agg #[u9000_, .int .i64 a0_1, .bool a0_2, .bool a0_3, .int .i64 a0_4, .int .i64 a0_5], .string a1, .string a2] w fun e w' => ∃ v0_ : Value, e = .returned (.tuple #[.agg #[v0_, .int .i64 r2, .bool r3, .bool r4, .int .i64 r5, .int .i64 r6], .int .i64 r7]) ∧ Kd.R k76 76 w' w0.heap.size (fun k_ => (P0_0_ k_ ∨ w.heap.size ≤ k_)) v0_ r1 ∧ Below w0.heap.size w0 w' ∧ Kept w w' (fun k_ => P0_0_ k_) := by
  have hu39 := Try.underlying39
  have HO0_0 := Aside0.mk (show Kd.R k76 76 w w0.heap.size (fun k_ => (P0_0_ k_ ∨ w.heap.size ≤ k_)) u9000_ l0_0 from Kd.R_mono ho0_0 (fun k_ hk => (.inl hk)))
  have HK := Aside0.mk (Kept.refl w (fun k_ => P0_0_ k_))
  have HW0 := Aside0.mk hB.size
  have HB := Aside0.mk hB
  clear hB
  have H : ((forebearref06_Data.f k l0_0 a0_1 a0_2 a0_3 a0_4 a0_5 a1).bind fun t192 => ((forebearref06_lay.f k l0_0 a0_1 a0_2 a0_3 a0_4 a0_5 a1 t192 a2).bind fun bt193 => (some (bt193.1, bt193.2.1, bt193.2.2.1, bt193.2.2.2.1, bt193.2.2.2.2.1, bt193.2.2.2.2.2.1, bt193.2.2.2.2.2.2)))) = some (r1, r2, r3, r4, r5, r6, r7) := h
  clear h
  replace H := Option.bind_eq_some_iff.mp H
  obtain ⟨t192, A40, H⟩ := H
  replace H : ((forebearref06_lay.f k l0_0 a0_1 a0_2 a0_3 a0_4 a0_5 a1 t192 a2).bind fun bt193 => (some (bt193.1, bt193.2.1, bt193.2.2.1, bt193.2.2.2.1, bt193.2.2.2.2.1, bt193.2.2.2.2.2.1, bt193.2.2.2.2.2.2))) = some (r1, r2, r3, r4, r5, r6, r7) := H
  have A4 := Aside0.mk A40
  clear A40
  replace H := Option.bind_eq_some_iff.mp H
  obtain ⟨⟨t193, t196, t197, t198, t199, t200, t201⟩, A50, H⟩ := H
  replace H : (some (t193, t196, t197, t198, t199, t200, t201)) = some (r1, r2, r3, r4, r5, r6, r7) := H
  have A5 := Aside0.mk A50
  clear A50
  simp only [Option.some.injEq, Prod.mk.injEq] at H
  obtain ⟨rfl, rfl, rfl, rfl, rfl, rfl, rfl⟩ := H
  obtain ⟨Ao6, co6, eo6⟩ := Kd.R_slice HO0_0.out
  subst eo6
  go_enter Try.func35, Try.ntmps35
  try go_wp2_with (first | ((with_reducible refine gate_dst (N := 3) rfl ?_); refine box_event ?hg (N := 3) ?hd (cs := #[.slice Ao6 l0_0.length co6, .int .i64 a0_1, .bool a0_2, .bool a0_3, .int .i64 a0_4, .int .i64 a0_5]) (t := 39) ?hr ?_; (case hd => rfl); (case hg => rfl); (case hr => first | (go_simp; done) | (go_simp; rfl)); intro gb190 hg w7 hbox hb; have n0_ := Aside0.mk (Kd.R_below (by (with_reducible repeat (first | apply Kd.R_alloc | apply Kd.R_drewN | apply Kd.R_drew)); exact HO0_0.out) hb); have n1_ := Aside0.mk (Kept.below (S := (fun k_ => P0_0_ k_)) (by repeat (first | (with_reducible first | exact HK.out | apply Kept.alloc | apply Kept.drewN | apply Kept.drew) | exact HK.out)) hb); have n2_ := Aside0.mk (below_step (by repeat (first | (with_reducible first | exact HB.out | apply below_alloc | apply pw_below_drewN | apply below_drew1) | exact HB.out)) hb); have n3_ := Aside0.mk (hbox); have n4_ := Aside0.mk ((by rw [hg]; exact (by first | exact HK.out.1 | exact (show Kept w _ (fun k_ => P0_0_ k_) from by repeat (first | (with_reducible first | exact HK.out | apply Kept.alloc | apply Kept.drewN | apply Kept.drew) | exact HK.out)).1) : w.heap.size ≤ gb190)); have n5_ := Aside0.mk ((by rw [hg]; exact (below_size (by repeat (first | (with_reducible first | exact HB.out | apply below_alloc | apply pw_below_drewN | apply below_drew1) | exact HB.out))) : w0.heap.size ≤ gb190)); clear HO0_0; clear HK; clear HB; have HO0_0 := n0_; have HK := n1_; have HB := n2_; have BK190 := n3_; have GW190 := n4_; have GE190 := n5_; clear n0_ n1_ n2_ n3_ n4_ n5_; clear hb hbox hg) | ((with_reducible refine gate_dst (N := 6) rfl ?_); refine box_event ?hg (N := 6) ?hd (cs := #[.slice none 0 0, .int .i64 0, .bool false, .bool false, .int .i64 0, .int .i64 0]) (t := 39) ?hr ?_; (case hd => rfl); (case hg => rfl); (case hr => first | (go_simp; done) | (go_simp; rfl)); intro gb191 hg w8 hbox hb; have n0_ := Aside0.mk (Kd.R_below (by (with_reducible repeat (first | apply Kd.R_alloc | apply Kd.R_drewN | apply Kd.R_drew)); exact HO0_0.out) hb); have n1_ := Aside0.mk (blk_below (g := gb190) (o := .cells #[.slice Ao6 l0_0.length co6, .int .i64 a0_1, .bool a0_2, .bool a0_3, .int .i64 a0_4, .int .i64 a0_5] 39 (0, 0)) (by (with_reducible repeat (first | refine blk_drewN ?_ _ | refine blk_drew ?_ | refine blk_alloc ?_ _)); exact BK190.out) hb); have n2_ := Aside0.mk (Kept.below (S := (fun k_ => P0_0_ k_)) (by repeat (first | (with_reducible first | exact HK.out | apply Kept.alloc | apply Kept.drewN | apply Kept.drew | refine Kept.setCell ?_ (.inr GW190.out) _) | exact HK.out)) hb); have n3_ := Aside0.mk (below_step (by repeat (first | (with_reducible first | exact HB.out | apply below_alloc | apply pw_below_drewN | apply below_drew1 | refine below_set ?_ GE190.out) | exact HB.out)) hb); have n4_ := Aside0.mk (hbox); have n5_ := Aside0.mk ((by rw [hg]; exact (by first | exact HK.out.1 | exact (show Kept w _ (fun k_ => P0_0_ k_) from by repeat (first | (with_reducible first | exact HK.out | apply Kept.alloc | apply Kept.drewN | apply Kept.drew | refine Kept.setCell ?_ (.inr GW190.out) _) | exact HK.out)).1) : w.heap.size ≤ gb191)); have n6_ := Aside0.mk ((by rw [hg]; exact (below_size (by repeat (first | (with_reducible first | exact HB.out | apply below_alloc | apply pw_below_drewN | apply below_drew1 | refine below_set ?_ GE190.out) | exact HB.out))) : w0.heap.size ≤ gb191)); have n7_ := Aside0.mk ((by rw [hg]; exact Nat.ne_of_lt (blk_lt (g := gb190) (o := .cells #[.slice Ao6 l0_0.length co6, .int .i64 a0_1, .bool a0_2, .bool a0_3, .int .i64 a0_4, .int .i64 a0_5] 39 (0, 0)) (by (with_reducible repeat (first | refine blk_drewN ?_ _ | refine blk_drew ?_ | refine blk_alloc ?_ _)); exact BK190.out)) : gb190 ≠ gb191)); have n8_ := Aside0.mk ((by rw [hg]; exact Nat.ne_of_gt (blk_lt (g := gb190) (o := .cells #[.slice Ao6 l0_0.length co6, .int .i64 a0_1, .bool a0_2, .bool a0_3, .int .i64 a0_4, .int .i64 a0_5] 39 (0, 0)) (by (with_reducible repeat (first | refine blk_drewN ?_ _ | refine blk_drew ?_ | refine blk_alloc ?_ _)); exact BK190.out)) : gb191 ≠ gb190)); clear HO0_0; clear BK190; clear HK; clear HB; have HO0_0 := n0_; have BK190 := n1_; have HK := n2_; have HB := n3_; have BK191 := n4_; have GW191 := n5_; have GE191 := n6_; have NB190_191 := n7_; have NB191_190 := n8_; clear n0_ n1_ n2_ n3_ n4_ n5_ n6_ n7_ n8_; clear hb hbox hg))
  have n0_ := Aside0.mk (Kd.R_drew HO0_0.out)
  have n1_ := Aside0.mk (blk_drew BK190.out)
  have n2_ := Aside0.mk (blk_drew BK191.out)
  have n3_ := Aside0.mk (Kept.drew HK.out)
  have n4_ := Aside0.mk (below_drew1 HB.out)
  clear HO0_0
  clear BK190
  clear BK191
  clear HK
  clear HB
  have HO0_0 := n0_
  have BK190 := n1_
  have BK191 := n2_
  have HK := n3_
  have HB := n4_
  clear n0_ n1_ n2_ n3_ n4_
  refine start_ (n := 11) (S := fun w' => w'.cell? ⟨gb190, 0, none⟩ = some (.slice Ao6 l0_0.length co6) ∧ w'.cell? ⟨gb190, 1, none⟩ = some (.int .i64 a0_1) ∧ w'.cell? ⟨gb190, 2, none⟩ = some (.bool a0_2) ∧ w'.cell? ⟨gb190, 3, none⟩ = some (.bool a0_3) ∧ w'.cell? ⟨gb190, 4, none⟩ = some (.int .i64 a0_4) ∧ w'.cell? ⟨gb190, 5, none⟩ = some (.int .i64 a0_5)) (ds := []) #[false, false, false, false, false, false, false, false, false, false, false] (by kernel_rfl) rfl rfl ⟨(blk_cell BK190.out 0).trans rfl, (blk_cell BK190.out 1).trans rfl, (blk_cell BK190.out 2).trans rfl, (blk_cell BK190.out 3).trans rfl, (blk_cell BK190.out 4).trans rfl, (blk_cell BK190.out 5).trans rfl⟩ (fun hHeld => ?_); refine with_tabW forebearref06_Append.tab1 forebearref06_Append.bits1 (fun HT_ HW_ => ?_)
  generalize w8.drew = w9 at HO0_0 BK190 BK191 HK HB hHeld ⊢
  refine pure_ (i := 1) (N := some 9) (v := ?_) (a' := ?_) #[false, true, false, false, false, false, false, false, false, false, false] rfl rfl (any_of HT_.out (by kernel_rfl)) (fun _ _ _ h => h) (Or.inl ⟨by rfl, ?_⟩) ?_ ?_
  rotate_left
  · intro w'
    go_simp
    with_reducible rfl
  rotate_left
  · simp only [Act.put, List.setIfInBounds_toArray, List.set_cons_zero, List.set_cons_succ, i64_w, i32_w]
    rfl
  refine pure_ (i := 3) (N := some 11) (v := ?_) (a' := ?_) #[false, true, false, true, false, false, false, false, false, false, false] rfl rfl (any_of HT_.out (by kernel_rfl)) (fun _ _ _ h => h) (Or.inl ⟨by rfl, ?_⟩) ?_ ?_
  rotate_left
  · intro w'
    go_simp
    with_reducible rfl
  rotate_left
  · simp only [Act.put, List.setIfInBounds_toArray, List.set_cons_zero, List.set_cons_succ, i64_w, i32_w]
    rfl
  refine pure_ (i := 5) (N := some 13) (v := ?_) (a' := ?_) #[false, true, false, true, false, true, false, false, false, false, false] rfl rfl (any_of HT_.out (by kernel_rfl)) (fun _ _ _ h => h) (Or.inl ⟨by rfl, ?_⟩) ?_ ?_
  rotate_left
  · intro w'
    go_simp
    with_reducible rfl
  rotate_left
  · simp only [Act.put, List.setIfInBounds_toArray, List.set_cons_zero, List.set_cons_succ, i64_w, i32_w]
    rfl
  refine take_ (i := 0) (N := some 8) (v := ?_) (a' := ?_) #[true, true, false, true, false, true, false, false, false, false, false] rfl rfl (take_ofW HT_.out HW_.out (by kernel_rfl)) (fun _ _ _ h => h) (Or.inl ⟨by rfl, ?_⟩) hHeld ?_ ?_
  rotate_left
  · rintro w' ⟨s0, s1, s2, s3, s4, s5⟩
    go_simp
    with_reducible rfl
  rotate_left
  · simp only [Act.put, List.setIfInBounds_toArray, List.set_cons_zero, List.set_cons_succ, i64_w, i32_w]
    rfl
  refine take_ (i := 2) (N := some 10) (v := ?_) (a' := ?_) #[true, true, true, true, false, true, false, false, false, false, false] rfl rfl (take_ofW HT_.out HW_.out (by kernel_rfl)) (fun _ _ _ h => h) (Or.inl ⟨by rfl, ?_⟩) hHeld ?_ ?_
  rotate_left
  · rintro w' ⟨s0, s1, s2, s3, s4, s5⟩
    go_simp
    with_reducible rfl
  rotate_left
  · simp only [Act.put, List.setIfInBounds_toArray, List.set_cons_zero, List.set_cons_succ, i64_w, i32_w]
    rfl
  refine one_ (i := 4) (N := some 12) #[true, true, true, true, true, true, false, false, false, false, false] rfl rfl (one_of HT_.out (by kernel_rfl)) (by decide) (fun K hK => ?_)
  refine goes_ Try.func54 (by kernel_rfl) rfl #[.agg #[.slice Ao6 l0_0.length co6, .int .i64 a0_1, .bool a0_2, .bool a0_3, .int .i64 a0_4, .int .i64 a0_5], .string a1] (by rfl) rfl rfl (by (try simp only [List.map_toArray, List.map_cons, List.map_nil]); first | done | rfl | (simp only [List.length_drop, List.length_take]; rfl)) ?_
  with_reducible refine (forebearref06_Data.calls k _ _ l0_0 a0_1 a0_2 a0_3 a0_4 a0_5 a1 t192 _ ?side1 ?side2 A4.out).mono ?_
  (case side1 => repeat (first | exact (Kd.R_reads' HO0_0.out).2.2 | (with_reducible refine Kd.C_alloc ?_ _) | (with_reducible refine Kd.C_drewN ?_ _) | (with_reducible refine Kd.C_drew ?_)))
  (case side2 => exact (Kd.R_reads' HO0_0.out).2.1)
  rintro e w10 ⟨rfl, hb⟩
  refine ⟨_, rfl, ?_⟩
  have n0_ := Aside0.mk (Kd.R_below (by (with_reducible repeat (first | apply Kd.R_alloc | apply Kd.R_drewN | apply Kd.R_drew)); exact HO0_0.out) hb)
  have n1_ := Aside0.mk (blk_below (g := gb190) (o := .cells #[.slice Ao6 l0_0.length co6, .int .i64 a0_1, .bool a0_2, .bool a0_3, .int .i64 a0_4, .int .i64 a0_5] 39 (0, 0)) (by (with_reducible repeat (first | refine blk_drewN ?_ _ | refine blk_drew ?_ | refine blk_alloc ?_ _)); exact BK190.out) hb)
  have n2_ := Aside0.mk (blk_below (g := gb191) (o := .cells #[.slice none 0 0, .int .i64 0, .bool false, .bool false, .int .i64 0, .int .i64 0] 39 (0, 0)) (by (with_reducible repeat (first | refine blk_drewN ?_ _ | refine blk_drew ?_ | refine blk_alloc ?_ _)); exact BK191.out) hb)
  have n3_ := Aside0.mk (Kept.below (S := (fun k_ => P0_0_ k_)) (by repeat (first | (with_reducible first | exact HK.out | apply Kept.alloc | apply Kept.drewN | apply Kept.drew | refine Kept.setCell ?_ (.inr GW190.out) _ | refine Kept.setCell ?_ (.inr GW191.out) _) | exact HK.out)) hb)
  have n4_ := Aside0.mk (below_step (by repeat (first | (with_reducible first | exact HB.out | apply below_alloc | apply pw_below_drewN | apply below_drew1 | refine below_set ?_ GE190.out | refine below_set ?_ GE191.out) | exact HB.out)) hb)
  clear HO0_0
  clear BK190
  clear BK191
  clear HK
  clear HB
  have HO0_0 := n0_
  have BK190 := n1_
  have BK191 := n2_
  have HK := n3_
  have HB := n4_
  clear n0_ n1_ n2_ n3_ n4_
  (try clear hb)
  (try clear hb2)
  (try clear hk)
  (try clear hi)
  refine hK.out _ _ ⟨(blk_cell BK190.out 0).trans rfl, (blk_cell BK190.out 1).trans rfl, (blk_cell BK190.out 2).trans rfl, (blk_cell BK190.out 3).trans rfl, (blk_cell BK190.out 4).trans rfl, (blk_cell BK190.out 5).trans rfl⟩ (fun hHeld => ?_)
  clear hK K
  refine norm_ (a' := ?_) ?_ ?_
  rotate_left
  · show Act.put _ (some 12) _ = _
    simp only [Act.put, List.setIfInBounds_toArray, List.set_cons_zero, List.set_cons_succ, i64_w, i32_w]
    rfl
  refine one_ (i := 6) (N := some 14) #[true, true, true, true, true, true, true, false, false, false, false] rfl rfl (one_of HT_.out (by kernel_rfl)) (by decide) (fun K hK => ?_)
  refine goes_ Try.func53 (by kernel_rfl) rfl #[.agg #[.slice Ao6 l0_0.length co6, .int .i64 a0_1, .bool a0_2, .bool a0_3, .int .i64 a0_4, .int .i64 a0_5], .string a1, .string t192, .string a2] (by rfl) rfl rfl (by (try simp only [List.map_toArray, List.map_cons, List.map_nil]); first | done | rfl | (simp only [List.length_drop, List.length_take]; rfl)) ?_
  with_reducible refine (forebearref06_lay.calls k (fun k_ => some k_ = (.slice Ao6 l0_0.length co6 : Value).ownBlock) (.slice Ao6 l0_0.length co6) l0_0 a0_1 a0_2 a0_3 a0_4 a0_5 a1 t192 a2 t193 t196 t197 t198 t199 t200 t201 w0 _ ?side1 ?side2 A5.out).mono ?_
  (case side1 => repeat (first | (with_reducible first | exact HB.out | apply below_alloc | apply pw_below_drewN | apply below_drew1 | refine below_set ?_ GE190.out | refine below_set ?_ GE191.out) | exact HB.out))
  (case side2 => exact Kd.R_tight rfl HO0_0.out)
  rintro e w11 ⟨v194, rfl, ho0, hb, hkp⟩
  refine ⟨_, rfl, ?_⟩
  have n0_ := Aside0.mk (blk_kept (by (with_reducible repeat (first | refine blk_drewN ?_ _ | refine blk_drew ?_ | refine blk_alloc ?_ _)); exact BK190.out) hkp (fun hs_ => (fun e_ => (Kd.R_ne HO0_0.out BK190.out (by decide)) e_) hs_))
  have n1_ := Aside0.mk (blk_kept (by (with_reducible repeat (first | refine blk_drewN ?_ _ | refine blk_drew ?_ | refine blk_alloc ?_ _)); exact BK191.out) hkp (fun hs_ => (fun e_ => (Kd.R_ne HO0_0.out BK191.out (by decide)) e_) hs_))
  have n2_ := Aside0.mk (Kd.R_mono (ok' := fun k_ => (P0_0_ k_ ∨ w.heap.size ≤ k_)) ho0 (fun k_ hk_ => Or.elim hk_ (fun hs_ => (HO0_0.out.1 k_ (hs_).symm)) (fun hn_ => (.inr (Nat.le_trans (by first | exact HK.out.1 | exact (show Kept w _ (fun k_ => P0_0_ k_) from by repeat (first | (with_reducible first | exact HK.out | apply Kept.alloc | apply Kept.drewN | apply Kept.drew | refine Kept.setCell ?_ (.inr GW190.out) _ | refine Kept.setCell ?_ (.inr GW191.out) _) | exact HK.out)).1) hn_)))))
  have n3_ := Aside0.mk (Kept.then_ (S := (fun k_ => P0_0_ k_)) (by repeat (first | (with_reducible first | exact HK.out | apply Kept.alloc | apply Kept.drewN | apply Kept.drew | refine Kept.setCell ?_ (.inr GW190.out) _ | refine Kept.setCell ?_ (.inr GW191.out) _) | exact HK.out)) hkp (fun k_ hs_ => (fun e_ => (HO0_0.out.1 k_ e_.symm)) hs_))
  have n4_ := Aside0.mk (hb)
  clear BK190
  clear BK191
  clear HK
  clear HB
  clear HO0_0
  have BK190 := n0_
  have BK191 := n1_
  have HO195 := n2_
  have HK := n3_
  have HB := n4_
  clear n0_ n1_ n2_ n3_ n4_
  (try clear hb)
  (try clear hkp)
  (try clear ho0)
  obtain ⟨Ao12, co12, eo12⟩ := Kd.R_slice HO195.out
  (first | subst eo12 | (injection eo12 with f1_ f2_ f3_; have f4_ := f1_.symm; have f5_ := f3_.symm; clear f1_ f2_ f3_; subst f4_; subst f5_))
  refine hK.out _ _ ⟨(blk_cell BK190.out 0).trans rfl, (blk_cell BK190.out 1).trans rfl, (blk_cell BK190.out 2).trans rfl, (blk_cell BK190.out 3).trans rfl, (blk_cell BK190.out 4).trans rfl, (blk_cell BK190.out 5).trans rfl⟩ (fun hHeld => ?_)
  clear hK K
  refine norm_ (a' := ?_) ?_ ?_
  rotate_left
  · show Act.put _ (some 14) _ = _
    simp only [Act.put, List.setIfInBounds_toArray, List.set_cons_zero, List.set_cons_succ, i64_w, i32_w]
    rfl
  refine pure_ (i := 7) (N := some 15) (v := ?_) (a' := ?_) #[true, true, true, true, true, true, true, true, false, false, false] rfl rfl (any_of HT_.out (by kernel_rfl)) (fun _ _ _ h => h) (Or.inl ⟨by rfl, ?_⟩) ?_ ?_
  rotate_left
  · intro w'
    go_simp
    with_reducible rfl
  rotate_left
  · simp only [Act.put, List.setIfInBounds_toArray, List.set_cons_zero, List.set_cons_succ, i64_w, i32_w]
    rfl
  refine pure_ (i := 8) (N := some 16) (v := ?_) (a' := ?_) #[true, true, true, true, true, true, true, true, true, false, false] rfl rfl (any_of HT_.out (by kernel_rfl)) (fun _ _ _ h => h) (Or.inl ⟨by rfl, ?_⟩) ?_ ?_
  rotate_left
  · intro w'
    go_simp
    with_reducible rfl
  rotate_left
  · simp only [Act.put, List.setIfInBounds_toArray, List.set_cons_zero, List.set_cons_succ, i64_w, i32_w]
    rfl
  refine one_ (i := 9) (N := none) #[true, true, true, true, true, true, true, true, true, true, false] rfl rfl (one_of HT_.out (by kernel_rfl)) (by decide) (fun K hK => ?_)
  have hs13 : w11.cell? ⟨gb191, 0, none⟩ = some (.slice none 0 0) := (blk_cell BK191.out 0).trans rfl
  have hfs13 := blk_frozen BK191.out 0
  have hns13_0 := NB190_191.out
  have hms13_0 := NB191_190.out
  have hs14 : w11.cell? ⟨gb191, 1, none⟩ = some (.int .i64 0) := (blk_cell BK191.out 1).trans rfl
  have hfs14 := blk_frozen BK191.out 1
  have hns14_0 := NB190_191.out
  have hms14_0 := NB191_190.out
  have hs15 : w11.cell? ⟨gb191, 2, none⟩ = some (.bool false) := (blk_cell BK191.out 2).trans rfl
  have hfs15 := blk_frozen BK191.out 2
  have hns15_0 := NB190_191.out
  have hms15_0 := NB191_190.out
  have hs16 : w11.cell? ⟨gb191, 3, none⟩ = some (.bool false) := (blk_cell BK191.out 3).trans rfl
  have hfs16 := blk_frozen BK191.out 3
  have hns16_0 := NB190_191.out
  have hms16_0 := NB191_190.out
  have hs17 : w11.cell? ⟨gb191, 4, none⟩ = some (.int .i64 0) := (blk_cell BK191.out 4).trans rfl
  have hfs17 := blk_frozen BK191.out 4
  have hns17_0 := NB190_191.out
  have hms17_0 := NB191_190.out
  have hs18 : w11.cell? ⟨gb191, 5, none⟩ = some (.int .i64 0) := (blk_cell BK191.out 5).trans rfl
  have hfs18 := blk_frozen BK191.out 5
  have hns18_0 := NB190_191.out
  have hms18_0 := NB191_190.out
  refine skip_ (w1 := ?_) (by rfl) rfl ?_ ?_
  rotate_left
  · go_simp
    rfl
  refine hK.out _ _ ⟨((cell_far (p := ⟨gb191, _, none⟩) NB190_191.out _).trans (((cell_far (p := ⟨gb191, _, none⟩) NB190_191.out _).trans (((cell_far (p := ⟨gb191, _, none⟩) NB190_191.out _).trans (((cell_far (p := ⟨gb191, _, none⟩) NB190_191.out _).trans (((cell_far (p := ⟨gb191, _, none⟩) NB190_191.out _).trans (((cell_far (p := ⟨gb191, _, none⟩) NB190_191.out _).trans (hHeld.1)))))))))))), ((cell_far (p := ⟨gb191, _, none⟩) NB190_191.out _).trans (((cell_far (p := ⟨gb191, _, none⟩) NB190_191.out _).trans (((cell_far (p := ⟨gb191, _, none⟩) NB190_191.out _).trans (((cell_far (p := ⟨gb191, _, none⟩) NB190_191.out _).trans (((cell_far (p := ⟨gb191, _, none⟩) NB190_191.out _).trans (((cell_far (p := ⟨gb191, _, none⟩) NB190_191.out _).trans (hHeld.2.1)))))))))))), ((cell_far (p := ⟨gb191, _, none⟩) NB190_191.out _).trans (((cell_far (p := ⟨gb191, _, none⟩) NB190_191.out _).trans (((cell_far (p := ⟨gb191, _, none⟩) NB190_191.out _).trans (((cell_far (p := ⟨gb191, _, none⟩) NB190_191.out _).trans (((cell_far (p := ⟨gb191, _, none⟩) NB190_191.out _).trans (((cell_far (p := ⟨gb191, _, none⟩) NB190_191.out _).trans (hHeld.2.2.1)))))))))))), ((cell_far (p := ⟨gb191, _, none⟩) NB190_191.out _).trans (((cell_far (p := ⟨gb191, _, none⟩) NB190_191.out _).trans (((cell_far (p := ⟨gb191, _, none⟩) NB190_191.out _).trans (((cell_far (p := ⟨gb191, _, none⟩) NB190_191.out _).trans (((cell_far (p := ⟨gb191, _, none⟩) NB190_191.out _).trans (((cell_far (p := ⟨gb191, _, none⟩) NB190_191.out _).trans (hHeld.2.2.2.1)))))))))))), ((cell_far (p := ⟨gb191, _, none⟩) NB190_191.out _).trans (((cell_far (p := ⟨gb191, _, none⟩) NB190_191.out _).trans (((cell_far (p := ⟨gb191, _, none⟩) NB190_191.out _).trans (((cell_far (p := ⟨gb191, _, none⟩) NB190_191.out _).trans (((cell_far (p := ⟨gb191, _, none⟩) NB190_191.out _).trans (((cell_far (p := ⟨gb191, _, none⟩) NB190_191.out _).trans (hHeld.2.2.2.2.1)))))))))))), ((cell_far (p := ⟨gb191, _, none⟩) NB190_191.out _).trans (((cell_far (p := ⟨gb191, _, none⟩) NB190_191.out _).trans (((cell_far (p := ⟨gb191, _, none⟩) NB190_191.out _).trans (((cell_far (p := ⟨gb191, _, none⟩) NB190_191.out _).trans (((cell_far (p := ⟨gb191, _, none⟩) NB190_191.out _).trans (((cell_far (p := ⟨gb191, _, none⟩) NB190_191.out _).trans (hHeld.2.2.2.2.2))))))))))))⟩ (fun hHeld => ?_)
  clear hK K
  refine pure_ (i := 10) (N := some 7) (v := ?_) (a' := ?_) #[true, true, true, true, true, true, true, true, true, true, true] rfl rfl (any_of HT_.out (by kernel_rfl)) (fun _ _ _ h => h) (Or.inl ⟨by rfl, ?_⟩) ?_ ?_
  rotate_left
  · intro w'
    go_simp
    with_reducible rfl
  rotate_left
  · simp only [Act.put, List.setIfInBounds_toArray, List.set_cons_zero, List.set_cons_succ, i64_w, i32_w]
    rfl
  refine done_ (done_of HT_.out (by kernel_rfl)) ?_
  try go_wp2
  refine bodyPost_ret (results_ct rfl _ _ gb191 39 #[.slice Ao12 t193.length co12, .int .i64 t196, .bool t197, .bool t198, .int .i64 t199, .int .i64 t200] (0, 0) _ rfl (by (with_reducible repeat (first | refine blk_drewN ?_ _ | refine blk_drew ?_ | refine blk_alloc ?_ _)); refine blk_put (cs := #[.slice Ao12 t193.length co12, .int .i64 t196, .bool t197, .bool t198, .int .i64 t199, .int .i64 0]) ?_ 5 _ rfl; (with_reducible repeat (first | refine blk_drewN ?_ _ | refine blk_drew ?_ | refine blk_alloc ?_ _)); refine blk_put (cs := #[.slice Ao12 t193.length co12, .int .i64 t196, .bool t197, .bool t198, .int .i64 0, .int .i64 0]) ?_ 4 _ rfl; (with_reducible repeat (first | refine blk_drewN ?_ _ | refine blk_drew ?_ | refine blk_alloc ?_ _)); refine blk_put (cs := #[.slice Ao12 t193.length co12, .int .i64 t196, .bool t197, .bool false, .int .i64 0, .int .i64 0]) ?_ 3 _ rfl; (with_reducible repeat (first | refine blk_drewN ?_ _ | refine blk_drew ?_ | refine blk_alloc ?_ _)); refine blk_put (cs := #[.slice Ao12 t193.length co12, .int .i64 t196, .bool false, .bool false, .int .i64 0, .int .i64 0]) ?_ 2 _ rfl; (with_reducible repeat (first | refine blk_drewN ?_ _ | refine blk_drew ?_ | refine blk_alloc ?_ _)); refine blk_put (cs := #[.slice Ao12 t193.length co12, .int .i64 0, .bool false, .bool false, .int .i64 0, .int .i64 0]) ?_ 1 _ rfl; (with_reducible repeat (first | refine blk_drewN ?_ _ | refine blk_drew ?_ | refine blk_alloc ?_ _)); refine blk_put (cs := #[.slice none 0 0, .int .i64 0, .bool false, .bool false, .int .i64 0, .int .i64 0]) ?_ 0 _ rfl; (with_reducible repeat (first | refine blk_drewN ?_ _ | refine blk_drew ?_ | refine blk_alloc ?_ _)); exact BK191.out) Try.underlying39 rfl (by kernel_rfl)) rfl ?_
  exact ⟨_, by first | rfl | (simp [errW_none, errW_some] <;> rfl) | (simp [*, errW_none, errW_some] <;> rfl), by (with_reducible repeat (first | apply Kd.R_alloc | apply Kd.R_drewN | apply Kd.R_drew)); exact Kd.R_mono (Kd.R_far (p := ⟨gb191, 5, none⟩) (Kd.R_far (p := ⟨gb191, 4, none⟩) (Kd.R_far (p := ⟨gb191, 3, none⟩) (Kd.R_far (p := ⟨gb191, 2, none⟩) (Kd.R_far (p := ⟨gb191, 1, none⟩) (Kd.R_far (p := ⟨gb191, 0, none⟩) (Kd.R_types HO195.out BK191.out (by decide)) (fun _ hk => hk.2) (.slice Ao12 t193.length co12)) (fun _ hk => hk.2) (.int .i64 t196)) (fun _ hk => hk.2) (.bool t197)) (fun _ hk => hk.2) (.bool t198)) (fun _ hk => hk.2) (.int .i64 t199)) (fun _ hk => hk.2) (.int .i64 t200)) (fun _ hk => hk.1), by repeat (first | (with_reducible first | exact HB.out | apply below_alloc | apply pw_below_drewN | apply below_drew1 | refine below_set ?_ GE190.out | refine below_set ?_ GE191.out) | exact HB.out), by repeat (first | (with_reducible first | exact HK.out | apply Kept.alloc | apply Kept.drewN | apply Kept.drew | refine Kept.setCell ?_ (.inr GW190.out) _ | refine Kept.setCell ?_ (.inr GW191.out) _) | exact HK.out)⟩

/-! ### forebearref06_Trim: function 36 -/
def forebearref06_Trim.j0 : Nat → ByteArray → Int → ByteArray → Bool → List (S76) → Int → Bool → Bool → Int → Int → Option ((List (S76)) × Int × Bool × Bool × Int × Int × Int)
 | 0, _, _, _, _, _, _, _, _, _, _ => none
 | k + 1, x1, x2, x8, x31, x203000, x203001, x203002, x203003, x203004, x203005 => if x31 = true then (some (x203000, x203001, x203002, x203003, x203004, x203005, 3)) else ((forebearref06_next.f k x203000 x203001 x203002 x203003 x203004 x203005).bind fun bt207 => (if bt207.2.2.2.2.2.2.1 = true then (if 0 ≤ x2 then (if x2 ≤ (x8.size : Int) then ((forebearref06_with.f k bt207.1 x1 (x8.extract 0 (x2 : Int).toNat)).bind fun t218 => (some (t218, bt207.2.1, bt207.2.2.1, bt207.2.2.2.1, bt207.2.2.2.2.1, bt207.2.2.2.2.2.1, 0))) else (none)) else (none)) else (some (bt207.1, bt207.2.1, bt207.2.2.1, bt207.2.2.2.1, bt207.2.2.2.2.1, bt207.2.2.2.2.2.1, 8))))
def forebearref06_Trim.f (k : Nat) (l0_0 : List (S76)) (a0_1 : Int) (a0_2 : Bool) (a0_3 : Bool) (a0_4 : Int) (a0_5 : Int) (a1 : ByteArray) (a2 : Int) : Option ((List (S76)) × Int × Bool × Bool × Int × Int × Int) := (forebearref03_Name.f k a1).bind fun t204 => (if t204 = true then ((forebearref06_At.f k l0_0 a0_1 a0_2 a0_3 a0_4 a0_5 a1).bind fun t205 => (if t205 < 0 then (some (l0_0, a0_1, a0_2, a0_3, a0_4, a0_5, 5)) else ((forebearref06_Data.f k l0_0 a0_1 a0_2 a0_3 a0_4 a0_5 a1).bind fun t206 => (if a2 < 0 then (forebearref06_Trim.j0 k a1 a2 t206 true l0_0 a0_1 a0_2 a0_3 a0_4 a0_5) else (forebearref06_Trim.j0 k a1 a2 t206 (decide (a2 > (t206.size : Int))) l0_0 a0_1 a0_2 a0_3 a0_4 a0_5))))) else (some (l0_0, a0_1, a0_2, a0_3, a0_4, a0_5, 2)))
theorem forebearref06_Trim.mono_l : ∀ k, (∀ y0 y1 y2 y3 y4 y5 y6 y7 y8 y9, LeO (forebearref06_Trim.j0 k y0 y1 y2 y3 y4 y5 y6 y7 y8 y9) (forebearref06_Trim.j0 (k + 1) y0 y1 y2 y3 y4 y5 y6 y7 y8 y9))
 | 0 => fun _ _ _ _ _ _ _ _ _ _ r h => by simp [forebearref06_Trim.j0] at h
 | k + 1 => by
  have ih0 := forebearref06_Trim.mono_l k
  ·intro y0 y1 y2 y3 y4 y5 y6 y7 y8 y9
   unfold forebearref06_Trim.j0
   repeat' first
   | (with_reducible exact ih0 _ _ _ _ _ _ _ _ _ _)
   | (with_reducible exact forebearref03_Name.mono _ _)
   | (with_reducible exact forebearref06_At.mono _ _ _ _ _ _ _ _)
   | (with_reducible exact forebearref06_Data.mono _ _ _ _ _ _ _ _)
   | (with_reducible exact forebearref06_next.mono _ _ _ _ _ _ _)
   | (with_reducible exact forebearref06_with.mono _ _ _ _)
   | (with_reducible exact LeO.refl _)
   | (with_reducible exact LeO.none _)
   | (with_reducible refine LeO.ite ?_ ?_)
   | (with_reducible refine LeO.bind ?_ (fun _ => ?_))
   | exact ih0 _ _ _ _ _ _ _ _ _ _
   | exact forebearref03_Name.mono _ _
   | exact forebearref06_At.mono _ _ _ _ _ _ _ _
   | exact forebearref06_Data.mono _ _ _ _ _ _ _ _
   | exact forebearref06_next.mono _ _ _ _ _ _ _
   | exact forebearref06_with.mono _ _ _ _
   | exact LeO.none _
   | refine LeO.ite ?_ ?_
   | refine LeO.bind ?_ (fun _ => ?_)
theorem forebearref06_Trim.mono : ∀ a0 a1 a2 a3 a4 a5 a6 a7 k, LeO (forebearref06_Trim.f k a0 a1 a2 a3 a4 a5 a6 a7) (forebearref06_Trim.f (k + 1) a0 a1 a2 a3 a4 a5 a6 a7) := by
 intro a0 a1 a2 a3 a4 a5 a6 a7 k
 have ih0 := forebearref06_Trim.mono_l k
 unfold forebearref06_Trim.f
 repeat' first
   | (with_reducible exact ih0 _ _ _ _ _ _ _ _ _ _)
   | (with_reducible exact forebearref03_Name.mono _ _)
   | (with_reducible exact forebearref06_At.mono _ _ _ _ _ _ _ _)
   | (with_reducible exact forebearref06_Data.mono _ _ _ _ _ _ _ _)
   | (with_reducible exact forebearref06_next.mono _ _ _ _ _ _ _)
   | (with_reducible exact forebearref06_with.mono _ _ _ _)
   | (with_reducible exact LeO.refl _)
   | (with_reducible exact LeO.none _)
   | (with_reducible refine LeO.ite ?_ ?_)
   | (with_reducible refine LeO.bind ?_ (fun _ => ?_))
   | exact ih0 _ _ _ _ _ _ _ _ _ _
   | exact forebearref03_Name.mono _ _
   | exact forebearref06_At.mono _ _ _ _ _ _ _ _
   | exact forebearref06_Data.mono _ _ _ _ _ _ _ _
   | exact forebearref06_next.mono _ _ _ _ _ _ _
   | exact forebearref06_with.mono _ _ _ _
   | exact LeO.none _
   | refine LeO.ite ?_ ?_
   | refine LeO.bind ?_ (fun _ => ?_)
def forebearref06_Trim.T11 : Bool × List (List Nat × List Nat) := (true, [([], []), ([0], [0]), ([], []), ([], []), ([], []), ([3, 4], [3, 4]), ([2, 5], [2, 5]), ([1, 6], [1, 6]), ([0, 1, 2, 3, 4, 5, 6, 7], []), ([8, 7, 7, 0, 1, 2, 3, 4, 5, 6, 7], [7, 8])])
def forebearref06_Trim.B11 : List Nat := [0, 1, 0, 0, 0, 24, 60, 127, 255, 511]
theorem forebearref06_Trim.tab11 : rtab .any (opsOf Try.f36 11) = forebearref06_Trim.T11 := by kernel_rfl
theorem forebearref06_Trim.bits11 : waitsOk forebearref06_Trim.T11.2 forebearref06_Trim.B11 = true := by kernel_rfl
set_option maxHeartbeats 8000000 in
set_option maxRecDepth 100000 in
theorem forebearref06_Trim.calls (k : Nat) (P0_0_ : Nat → Prop) (u9000_ : Value) (l0_0 : List (S76)) (a0_1 : Int) (a0_2 : Bool) (a0_3 : Bool) (a0_4 : Int) (a0_5 : Int) (a1 : ByteArray) (a2 : Int) (r1 : List (S76)) (r2 : Int) (r3 : Bool) (r4 : Bool) (r5 : Int) (r6 : Int) (r7 : Int) (w0 w : World) (hB : Below w0.heap.size w0 w) (ho0_0 : Kd.R k76 76 w w0.heap.size P0_0_ u9000_ l0_0) (h : forebearref06_Trim.f k l0_0 a0_1 a0_2 a0_3 a0_4 a0_5 a1 a2 = some (r1, r2, r3, r4, r5, r6, r7)) :
  Calls Try.prog 36 #[.agg #[u9000_, .int .i64 a0_1, .bool a0_2, .bool a0_3, .int .i64 a0_4, .int .i64 a0_5], .string a1, .int .i64 a2] w fun e w' => ∃ v0_ : Value, e = .returned (.tuple #[.agg #[v0_, .int .i64 r2, .bool r3, .bool r4, .int .i64 r5, .int .i64 r6], .int .i64 r7]) ∧ Kd.R k76 76 w' w0.heap.size (fun k_ => (P0_0_ k_ ∨ w.heap.size ≤ k_)) v0_ r1 ∧ Below w0.heap.size w0 w' ∧ Kept w w' (fun k_ => P0_0_ k_) := by
 have hu39 := Try.underlying39
 have hu76 := Try.underlying76
 have HO0_0 := Aside0.mk (show Kd.R k76 76 w w0.heap.size (fun k_ => (P0_0_ k_ ∨ w.heap.size ≤ k_)) u9000_ l0_0 from Kd.R_mono ho0_0 (fun k_ hk => (.inl hk)))
 have HK := Aside0.mk (Kept.refl w (fun k_ => P0_0_ k_))
 have HW0 := Aside0.mk hB.size
 have HB := Aside0.mk hB
 clear hB
 have H : ((forebearref03_Name.f k a1).bind fun t204 => (if t204 = true then ((forebearref06_At.f k l0_0 a0_1 a0_2 a0_3 a0_4 a0_5 a1).bind fun t205 => (if t205 < 0 then (some (l0_0, a0_1, a0_2, a0_3, a0_4, a0_5, 5)) else ((forebearref06_Data.f k l0_0 a0_1 a0_2 a0_3 a0_4 a0_5 a1).bind fun t206 => (if a2 < 0 then (forebearref06_Trim.j0 k a1 a2 t206 true l0_0 a0_1 a0_2 a0_3 a0_4 a0_5) else (forebearref06_Trim.j0 k a1 a2 t206 (decide (a2 > (t206.size : Int))) l0_0 a0_1 a0_2 a0_3 a0_4 a0_5))))) else (some (l0_0, a0_1, a0_2, a0_3, a0_4, a0_5, 2)))) = some (r1, r2, r3, r4, r5, r6, r7) := h
 clear h
 replace H := Option.bind_eq_some_iff.mp H
 obtain ⟨t204, A40, H⟩ := H
 replace H : (if t204 = true then ((forebearref06_At.f k l0_0 a0_1 a0_2 a0_3 a0_4 a0_5 a1).bind fun t205 => (if t205 < 0 then (some (l0_0, a0_1, a0_2, a0_3, a0_4, a0_5, 5)) else ((forebearref06_Data.f k l0_0 a0_1 a0_2 a0_3 a0_4 a0_5 a1).bind fun t206 => (if a2 < 0 then (forebearref06_Trim.j0 k a1 a2 t206 true l0_0 a0_1 a0_2 a0_3 a0_4 a0_5) else (forebearref06_Trim.j0 k a1 a2 t206 (decide (a2 > (t206.size : Int))) l0_0 a0_1 a0_2 a0_3 a0_4 a0_5))))) else (some (l0_0, a0_1, a0_2, a0_3, a0_4, a0_5, 2))) = some (r1, r2, r3, r4, r5, r6, r7) := H
 have A4 := Aside0.mk A40
 clear A40
 by_cases c5 : t204 = true
 ·subst c5
  have H1 : ((forebearref06_At.f k l0_0 a0_1 a0_2 a0_3 a0_4 a0_5 a1).bind fun t205 => (if t205 < 0 then (some (l0_0, a0_1, a0_2, a0_3, a0_4, a0_5, 5)) else ((forebearref06_Data.f k l0_0 a0_1 a0_2 a0_3 a0_4 a0_5 a1).bind fun t206 => (if a2 < 0 then (forebearref06_Trim.j0 k a1 a2 t206 true l0_0 a0_1 a0_2 a0_3 a0_4 a0_5) else (forebearref06_Trim.j0 k a1 a2 t206 (decide (a2 > (t206.size : Int))) l0_0 a0_1 a0_2 a0_3 a0_4 a0_5))))) = some (r1, r2, r3, r4, r5, r6, r7) := by rw [if_pos rfl] at H; exact H
  clear H
  have H := H1
  clear H1
  replace H := Option.bind_eq_some_iff.mp H
  obtain ⟨t205, A60, H⟩ := H
  replace H : (if t205 < 0 then (some (l0_0, a0_1, a0_2, a0_3, a0_4, a0_5, 5)) else ((forebearref06_Data.f k l0_0 a0_1 a0_2 a0_3 a0_4 a0_5 a1).bind fun t206 => (if a2 < 0 then (forebearref06_Trim.j0 k a1 a2 t206 true l0_0 a0_1 a0_2 a0_3 a0_4 a0_5) else (forebearref06_Trim.j0 k a1 a2 t206 (decide (a2 > (t206.size : Int))) l0_0 a0_1 a0_2 a0_3 a0_4 a0_5)))) = some (r1, r2, r3, r4, r5, r6, r7) := H
  have A6 := Aside0.mk A60
  clear A60
  by_cases c7 : t205 < 0
  ·rw [if_pos c7] at H
   have c7b0 : decide (t205 < 0) = true := decide_eq_true c7
   clear c7
   simp only [Option.some.injEq, Prod.mk.injEq] at H
   obtain ⟨rfl, rfl, rfl, rfl, rfl, rfl, rfl⟩ := H
   obtain ⟨Ao8, co8, eo8⟩ := Kd.R_slice HO0_0.out
   subst eo8
   go_enter Try.func36, Try.ntmps36
   go_wp2_with (first | ((with_reducible refine gate_dst (N := 3) rfl ?_); (try (refine gate_guard (by rfl) ?_; dsimp only)); refine box_event ?hg (N := 3) ?hd (cs := #[.slice Ao8 l0_0.length co8, .int .i64 a0_1, .bool a0_2, .bool a0_3, .int .i64 a0_4, .int .i64 a0_5]) (t := 39) ?hr ?_; (case hd => rfl); (case hg => rfl); (case hr => first | (go_simp; done) | (go_simp; rfl)); intro gb202 hg w9 hbox hb; have n0_ := Aside0.mk (Kd.R_below (by (with_reducible repeat (first | apply Kd.R_alloc | apply Kd.R_drewN | apply Kd.R_drew)); exact HO0_0.out) hb); have n1_ := Aside0.mk (Kept.below (S := (fun k_ => P0_0_ k_)) (by repeat (first | (with_reducible first | exact HK.out | apply Kept.alloc | apply Kept.drewN | apply Kept.drew) | exact HK.out)) hb); have n2_ := Aside0.mk (below_step (by repeat (first | (with_reducible first | exact HB.out | apply below_alloc | apply pw_below_drewN | apply below_drew1) | exact HB.out)) hb); have n3_ := Aside0.mk (hbox); have n4_ := Aside0.mk ((by rw [hg]; exact (by first | exact HK.out.1 | exact (show Kept w _ (fun k_ => P0_0_ k_) from by repeat (first | (with_reducible first | exact HK.out | apply Kept.alloc | apply Kept.drewN | apply Kept.drew) | exact HK.out)).1) : w.heap.size ≤ gb202)); have n5_ := Aside0.mk ((by rw [hg]; exact (below_size (by repeat (first | (with_reducible first | exact HB.out | apply below_alloc | apply pw_below_drewN | apply below_drew1) | exact HB.out))) : w0.heap.size ≤ gb202)); clear HO0_0; clear HK; clear HB; have HO0_0 := n0_; have HK := n1_; have HB := n2_; have BK202 := n3_; have GW202 := n4_; have GE202 := n5_; clear n0_ n1_ n2_ n3_ n4_ n5_; clear hb hbox hg) | ((with_reducible refine gate_dst (N := 6) rfl ?_); (try (refine gate_guard (by rfl) ?_; dsimp only)); refine box_event ?hg (N := 6) ?hd (cs := #[.slice none 0 0, .int .i64 0, .bool false, .bool false, .int .i64 0, .int .i64 0]) (t := 39) ?hr ?_; (case hd => rfl); (case hg => rfl); (case hr => first | (go_simp; done) | (go_simp; rfl)); intro gb203 hg w10 hbox hb; have n0_ := Aside0.mk (Kd.R_below (by (with_reducible repeat (first | apply Kd.R_alloc | apply Kd.R_drewN | apply Kd.R_drew)); exact HO0_0.out) hb); have n1_ := Aside0.mk (blk_below (g := gb202) (o := .cells #[.slice Ao8 l0_0.length co8, .int .i64 a0_1, .bool a0_2, .bool a0_3, .int .i64 a0_4, .int .i64 a0_5] 39 (0, 0)) (by (with_reducible repeat (first | refine blk_drewN ?_ _ | refine blk_drew ?_ | refine blk_alloc ?_ _)); exact BK202.out) hb); have n2_ := Aside0.mk (Kept.below (S := (fun k_ => P0_0_ k_)) (by repeat (first | (with_reducible first | exact HK.out | apply Kept.alloc | apply Kept.drewN | apply Kept.drew | refine Kept.setCell ?_ (.inr GW202.out) _) | exact HK.out)) hb); have n3_ := Aside0.mk (below_step (by repeat (first | (with_reducible first | exact HB.out | apply below_alloc | apply pw_below_drewN | apply below_drew1 | refine below_set ?_ GE202.out) | exact HB.out)) hb); have n4_ := Aside0.mk (hbox); have n5_ := Aside0.mk ((by rw [hg]; exact (by first | exact HK.out.1 | exact (show Kept w _ (fun k_ => P0_0_ k_) from by repeat (first | (with_reducible first | exact HK.out | apply Kept.alloc | apply Kept.drewN | apply Kept.drew | refine Kept.setCell ?_ (.inr GW202.out) _) | exact HK.out)).1) : w.heap.size ≤ gb203)); have n6_ := Aside0.mk ((by rw [hg]; exact (below_size (by repeat (first | (with_reducible first | exact HB.out | apply below_alloc | apply pw_below_drewN | apply below_drew1 | refine below_set ?_ GE202.out) | exact HB.out))) : w0.heap.size ≤ gb203)); have n7_ := Aside0.mk ((by rw [hg]; exact Nat.ne_of_lt (blk_lt (g := gb202) (o := .cells #[.slice Ao8 l0_0.length co8, .int .i64 a0_1, .bool a0_2, .bool a0_3, .int .i64 a0_4, .int .i64 a0_5] 39 (0, 0)) (by (with_reducible repeat (first | refine blk_drewN ?_ _ | refine blk_drew ?_ | refine blk_alloc ?_ _)); exact BK202.out)) : gb202 ≠ gb203)); have n8_ := Aside0.mk ((by rw [hg]; exact Nat.ne_of_gt (blk_lt (g := gb202) (o := .cells #[.slice Ao8 l0_0.length co8, .int .i64 a0_1, .bool a0_2, .bool a0_3, .int .i64 a0_4, .int .i64 a0_5] 39 (0, 0)) (by (with_reducible repeat (first | refine blk_drewN ?_ _ | refine blk_drew ?_ | refine blk_alloc ?_ _)); exact BK202.out)) : gb203 ≠ gb202)); clear HO0_0; clear BK202; clear HK; clear HB; have HO0_0 := n0_; have BK202 := n1_; have HK := n2_; have HB := n3_; have BK203 := n4_; have GW203 := n5_; have GE203 := n6_; have NB202_203 := n7_; have NB203_202 := n8_; clear n0_ n1_ n2_ n3_ n4_ n5_ n6_ n7_ n8_; clear hb hbox hg) | ((with_reducible refine gate_callee (f := 55) rfl ?_); refine goesL_ (some 13) rfl rfl Try.func55 (by kernel_rfl) rfl #[.string a1] rfl (by (try simp only [List.map_toArray, List.map_cons, List.map_nil]); first | done | rfl | (simp only [List.length_drop, List.length_take]; rfl)) ?_; (with_reducible refine (forebearref03_Name.calls k a1 true _ A4.out).mono ?_); rintro e w' ⟨rfl, ⟨nd, rfl⟩⟩; refine ⟨_, rfl, ?_⟩; (try (rw [drewN_self w10]; generalize hq_ : World.drewN w10 _ = w10; have n0_ : Aside0 (Kd.R k76 76 w10 w0.heap.size (fun k_ => (P0_0_ k_ ∨ w.heap.size ≤ k_)) (.slice Ao8 l0_0.length co8) l0_0) := ⟨by rw [← hq_]; exact (by (with_reducible repeat (first | apply Kd.R_alloc | apply Kd.R_drewN | apply Kd.R_drew)); exact HO0_0.out)⟩; have n1_ : Aside0 (w10.heap[gb202]? = some (.cells #[.slice Ao8 l0_0.length co8, .int .i64 a0_1, .bool a0_2, .bool a0_3, .int .i64 a0_4, .int .i64 a0_5] 39 (0, 0))) := ⟨by rw [← hq_]; exact (by (with_reducible repeat (first | refine blk_drewN ?_ _ | refine blk_drew ?_ | refine blk_alloc ?_ _)); exact BK202.out)⟩; have n2_ : Aside0 (w10.heap[gb203]? = some (.cells #[.slice none 0 0, .int .i64 0, .bool false, .bool false, .int .i64 0, .int .i64 0] 39 (0, 0))) := ⟨by rw [← hq_]; exact (by (with_reducible repeat (first | refine blk_drewN ?_ _ | refine blk_drew ?_ | refine blk_alloc ?_ _)); exact BK203.out)⟩; have n3_ : Aside0 (Kept w w10 (fun k_ => P0_0_ k_)) := ⟨by rw [← hq_]; exact (by repeat (first | (with_reducible first | exact HK.out | apply Kept.alloc | apply Kept.drewN | apply Kept.drew | refine Kept.setCell ?_ (.inr GW202.out) _ | refine Kept.setCell ?_ (.inr GW203.out) _) | exact HK.out))⟩; have n4_ : Aside0 (Below w0.heap.size w0 w10) := ⟨by rw [← hq_]; exact (by repeat (first | (with_reducible first | exact HB.out | apply below_alloc | apply pw_below_drewN | apply below_drew1 | refine below_set ?_ GE202.out | refine below_set ?_ GE203.out) | exact HB.out))⟩; clear HO0_0 BK202 BK203 HK HB hq_; have HO0_0 := n0_; have BK202 := n1_; have BK203 := n2_; have HK := n3_; have HB := n4_; clear n0_ n1_ n2_ n3_ n4_)); have hnb11 := NB202_203.out; have hnc11 := NB203_202.out; have hcz12_0 : w10.cell? ⟨gb202, 0, none⟩ = some (.slice Ao8 l0_0.length co8) := (blk_cell BK202.out 0).trans rfl; have hcz12_1 : w10.cell? ⟨gb202, 1, none⟩ = some (.int .i64 a0_1) := (blk_cell BK202.out 1).trans rfl; have hcz12_2 : w10.cell? ⟨gb202, 2, none⟩ = some (.bool a0_2) := (blk_cell BK202.out 2).trans rfl; have hcz12_3 : w10.cell? ⟨gb202, 3, none⟩ = some (.bool a0_3) := (blk_cell BK202.out 3).trans rfl; have hcz12_4 : w10.cell? ⟨gb202, 4, none⟩ = some (.int .i64 a0_4) := (blk_cell BK202.out 4).trans rfl; have hcz12_5 : w10.cell? ⟨gb202, 5, none⟩ = some (.int .i64 a0_5) := (blk_cell BK202.out 5).trans rfl; have hfz12_0 := blk_frozen BK202.out 0; have hfz12_1 := blk_frozen BK202.out 1; have hfz12_2 := blk_frozen BK202.out 2; have hfz12_3 := blk_frozen BK202.out 3; have hfz12_4 := blk_frozen BK202.out 4; have hfz12_5 := blk_frozen BK202.out 5) | ((with_reducible refine gate_callee (f := 56) rfl ?_); refine goesL_ (some 18) rfl rfl Try.func56 (by kernel_rfl) rfl #[.agg #[.slice Ao8 l0_0.length co8, .int .i64 a0_1, .bool a0_2, .bool a0_3, .int .i64 a0_4, .int .i64 a0_5], .string a1] rfl (by (try simp only [List.map_toArray, List.map_cons, List.map_nil]); first | done | rfl | (simp only [List.length_drop, List.length_take]; rfl)) ?_; (with_reducible refine (forebearref06_At.calls k _ _ l0_0 a0_1 a0_2 a0_3 a0_4 a0_5 a1 t205 _ ?side1 ?side2 A6.out).mono ?_); (case side1 => repeat (first | exact (Kd.R_reads' HO0_0.out).2.2 | (with_reducible refine Kd.C_alloc ?_ _) | (with_reducible refine Kd.C_drewN ?_ _) | (with_reducible refine Kd.C_drew ?_))); (case side2 => exact (Kd.R_reads' HO0_0.out).2.1); rintro e w13 ⟨rfl, hb⟩; refine ⟨_, rfl, ?_⟩; have n0_ := Aside0.mk (Kd.R_below (by (with_reducible repeat (first | apply Kd.R_alloc | apply Kd.R_drewN | apply Kd.R_drew)); exact HO0_0.out) hb); have n1_ := Aside0.mk (blk_below (g := gb202) (o := .cells #[.slice Ao8 l0_0.length co8, .int .i64 a0_1, .bool a0_2, .bool a0_3, .int .i64 a0_4, .int .i64 a0_5] 39 (0, 0)) (by (with_reducible repeat (first | refine blk_drewN ?_ _ | refine blk_drew ?_ | refine blk_alloc ?_ _)); exact BK202.out) hb); have n2_ := Aside0.mk (blk_below (g := gb203) (o := .cells #[.slice none 0 0, .int .i64 0, .bool false, .bool false, .int .i64 0, .int .i64 0] 39 (0, 0)) (by (with_reducible repeat (first | refine blk_drewN ?_ _ | refine blk_drew ?_ | refine blk_alloc ?_ _)); exact BK203.out) hb); have n3_ := Aside0.mk (Kept.below (S := (fun k_ => P0_0_ k_)) (by repeat (first | (with_reducible first | exact HK.out | apply Kept.alloc | apply Kept.drewN | apply Kept.drew | refine Kept.setCell ?_ (.inr GW202.out) _ | refine Kept.setCell ?_ (.inr GW203.out) _) | exact HK.out)) hb); have n4_ := Aside0.mk (below_step (by repeat (first | (with_reducible first | exact HB.out | apply below_alloc | apply pw_below_drewN | apply below_drew1 | refine below_set ?_ GE202.out | refine below_set ?_ GE203.out) | exact HB.out)) hb); clear HO0_0; clear BK202; clear BK203; clear HK; clear HB; have HO0_0 := n0_; have BK202 := n1_; have BK203 := n2_; have HK := n3_; have HB := n4_; clear n0_ n1_ n2_ n3_ n4_; (try clear hb); (try clear hb2); (try clear hk); (try clear hi); have hcz14_0 : w13.cell? ⟨gb202, 0, none⟩ = some (.slice Ao8 l0_0.length co8) := (blk_cell BK202.out 0).trans rfl; have hcz14_1 : w13.cell? ⟨gb202, 1, none⟩ = some (.int .i64 a0_1) := (blk_cell BK202.out 1).trans rfl; have hcz14_2 : w13.cell? ⟨gb202, 2, none⟩ = some (.bool a0_2) := (blk_cell BK202.out 2).trans rfl; have hcz14_3 : w13.cell? ⟨gb202, 3, none⟩ = some (.bool a0_3) := (blk_cell BK202.out 3).trans rfl; have hcz14_4 : w13.cell? ⟨gb202, 4, none⟩ = some (.int .i64 a0_4) := (blk_cell BK202.out 4).trans rfl; have hcz14_5 : w13.cell? ⟨gb202, 5, none⟩ = some (.int .i64 a0_5) := (blk_cell BK202.out 5).trans rfl; have hfz14_0 := blk_frozen BK202.out 0; have hfz14_1 := blk_frozen BK202.out 1; have hfz14_2 := blk_frozen BK202.out 2; have hfz14_3 := blk_frozen BK202.out 3; have hfz14_4 := blk_frozen BK202.out 4; have hfz14_5 := blk_frozen BK202.out 5; have hcz15_0 : w13.cell? ⟨gb203, 0, none⟩ = some (.slice none 0 0) := (blk_cell BK203.out 0).trans rfl; have hcz15_1 : w13.cell? ⟨gb203, 1, none⟩ = some (.int .i64 0) := (blk_cell BK203.out 1).trans rfl; have hcz15_2 : w13.cell? ⟨gb203, 2, none⟩ = some (.bool false) := (blk_cell BK203.out 2).trans rfl; have hcz15_3 : w13.cell? ⟨gb203, 3, none⟩ = some (.bool false) := (blk_cell BK203.out 3).trans rfl; have hcz15_4 : w13.cell? ⟨gb203, 4, none⟩ = some (.int .i64 0) := (blk_cell BK203.out 4).trans rfl; have hcz15_5 : w13.cell? ⟨gb203, 5, none⟩ = some (.int .i64 0) := (blk_cell BK203.out 5).trans rfl; have hfz15_0 := blk_frozen BK203.out 0; have hfz15_1 := blk_frozen BK203.out 1; have hfz15_2 := blk_frozen BK203.out 2; have hfz15_3 := blk_frozen BK203.out 3; have hfz15_4 := blk_frozen BK203.out 4; have hfz15_5 := blk_frozen BK203.out 5))
   refine bodyPost_ret (results_ct rfl _ _ gb203 39 #[.slice Ao8 l0_0.length co8, .int .i64 a0_1, .bool a0_2, .bool a0_3, .int .i64 a0_4, .int .i64 a0_5] (0, 0) _ rfl (by (with_reducible repeat (first | refine blk_drewN ?_ _ | refine blk_drew ?_ | refine blk_alloc ?_ _)); refine blk_put (cs := #[.slice Ao8 l0_0.length co8, .int .i64 a0_1, .bool a0_2, .bool a0_3, .int .i64 a0_4, .int .i64 0]) ?_ 5 _ rfl; (with_reducible repeat (first | refine blk_drewN ?_ _ | refine blk_drew ?_ | refine blk_alloc ?_ _)); refine blk_put (cs := #[.slice Ao8 l0_0.length co8, .int .i64 a0_1, .bool a0_2, .bool a0_3, .int .i64 0, .int .i64 0]) ?_ 4 _ rfl; (with_reducible repeat (first | refine blk_drewN ?_ _ | refine blk_drew ?_ | refine blk_alloc ?_ _)); refine blk_put (cs := #[.slice Ao8 l0_0.length co8, .int .i64 a0_1, .bool a0_2, .bool false, .int .i64 0, .int .i64 0]) ?_ 3 _ rfl; (with_reducible repeat (first | refine blk_drewN ?_ _ | refine blk_drew ?_ | refine blk_alloc ?_ _)); refine blk_put (cs := #[.slice Ao8 l0_0.length co8, .int .i64 a0_1, .bool false, .bool false, .int .i64 0, .int .i64 0]) ?_ 2 _ rfl; (with_reducible repeat (first | refine blk_drewN ?_ _ | refine blk_drew ?_ | refine blk_alloc ?_ _)); refine blk_put (cs := #[.slice Ao8 l0_0.length co8, .int .i64 0, .bool false, .bool false, .int .i64 0, .int .i64 0]) ?_ 1 _ rfl; (with_reducible repeat (first | refine blk_drewN ?_ _ | refine blk_drew ?_ | refine blk_alloc ?_ _)); refine blk_put (cs := #[.slice none 0 0, .int .i64 0, .bool false, .bool false, .int .i64 0, .int .i64 0]) ?_ 0 _ rfl; (with_reducible repeat (first | refine blk_drewN ?_ _ | refine blk_drew ?_ | refine blk_alloc ?_ _)); exact BK203.out) Try.underlying39 rfl (by kernel_rfl)) rfl ?_
   exact ⟨_, by first | rfl | (simp [errW_none, errW_some] <;> rfl) | (simp [*, errW_none, errW_some] <;> rfl), by (with_reducible repeat (first | apply Kd.R_alloc | apply Kd.R_drewN | apply Kd.R_drew)); exact Kd.R_mono (Kd.R_far (p := ⟨gb203, 5, none⟩) (Kd.R_far (p := ⟨gb203, 4, none⟩) (Kd.R_far (p := ⟨gb203, 3, none⟩) (Kd.R_far (p := ⟨gb203, 2, none⟩) (Kd.R_far (p := ⟨gb203, 1, none⟩) (Kd.R_far (p := ⟨gb203, 0, none⟩) (Kd.R_types HO0_0.out BK203.out (by decide)) (fun _ hk => hk.2) (.slice Ao8 l0_0.length co8)) (fun _ hk => hk.2) (.int .i64 a0_1)) (fun _ hk => hk.2) (.bool a0_2)) (fun _ hk => hk.2) (.bool a0_3)) (fun _ hk => hk.2) (.int .i64 a0_4)) (fun _ hk => hk.2) (.int .i64 a0_5)) (fun _ hk => hk.1), by repeat (first | (with_reducible first | exact HB.out | apply below_alloc | apply pw_below_drewN | apply below_drew1 | refine below_set ?_ GE202.out | refine below_set ?_ GE203.out) | exact HB.out), by repeat (first | (with_reducible first | exact HK.out | apply Kept.alloc | apply Kept.drewN | apply Kept.drew | refine Kept.setCell ?_ (.inr GW202.out) _ | refine Kept.setCell ?_ (.inr GW203.out) _) | exact HK.out)⟩
  ·rw [if_neg c7] at H
   have c7b0 : decide (t205 < 0) = false := decide_eq_false c7
   clear c7
   replace H := Option.bind_eq_some_iff.mp H
   obtain ⟨t206, A160, H⟩ := H
   replace H : (if a2 < 0 then (forebearref06_Trim.j0 k a1 a2 t206 true l0_0 a0_1 a0_2 a0_3 a0_4 a0_5) else (forebearref06_Trim.j0 k a1 a2 t206 (decide (a2 > (t206.size : Int))) l0_0 a0_1 a0_2 a0_3 a0_4 a0_5)) = some (r1, r2, r3, r4, r5, r6, r7) := H
   have A16 := Aside0.mk A160
   clear A160
   have HC17 := Aside0.mk H
   clear H
   obtain ⟨Ao18, co18, eo18⟩ := Kd.R_slice HO0_0.out
   subst eo18
   go_enter Try.func36, Try.ntmps36
   go_upto_region 6 with (first | ((with_reducible refine gate_dst (N := 3) rfl ?_); (try (refine gate_guard (by rfl) ?_; dsimp only)); refine box_event ?hg (N := 3) ?hd (cs := #[.slice Ao18 l0_0.length co18, .int .i64 a0_1, .bool a0_2, .bool a0_3, .int .i64 a0_4, .int .i64 a0_5]) (t := 39) ?hr ?_; (case hd => rfl); (case hg => rfl); (case hr => first | (go_simp; done) | (go_simp; rfl)); intro gb202 hg w19 hbox hb; have n0_ := Aside0.mk (Kd.R_below (by (with_reducible repeat (first | apply Kd.R_alloc | apply Kd.R_drewN | apply Kd.R_drew)); exact HO0_0.out) hb); have n1_ := Aside0.mk (Kept.below (S := (fun k_ => P0_0_ k_)) (by repeat (first | (with_reducible first | exact HK.out | apply Kept.alloc | apply Kept.drewN | apply Kept.drew) | exact HK.out)) hb); have n2_ := Aside0.mk (below_step (by repeat (first | (with_reducible first | exact HB.out | apply below_alloc | apply pw_below_drewN | apply below_drew1) | exact HB.out)) hb); have n3_ := Aside0.mk (hbox); have n4_ := Aside0.mk ((by rw [hg]; exact (by first | exact HK.out.1 | exact (show Kept w _ (fun k_ => P0_0_ k_) from by repeat (first | (with_reducible first | exact HK.out | apply Kept.alloc | apply Kept.drewN | apply Kept.drew) | exact HK.out)).1) : w.heap.size ≤ gb202)); have n5_ := Aside0.mk ((by rw [hg]; exact (below_size (by repeat (first | (with_reducible first | exact HB.out | apply below_alloc | apply pw_below_drewN | apply below_drew1) | exact HB.out))) : w0.heap.size ≤ gb202)); clear HO0_0; clear HK; clear HB; have HO0_0 := n0_; have HK := n1_; have HB := n2_; have BK202 := n3_; have GW202 := n4_; have GE202 := n5_; clear n0_ n1_ n2_ n3_ n4_ n5_; clear hb hbox hg) | ((with_reducible refine gate_dst (N := 6) rfl ?_); (try (refine gate_guard (by rfl) ?_; dsimp only)); refine box_event ?hg (N := 6) ?hd (cs := #[.slice none 0 0, .int .i64 0, .bool false, .bool false, .int .i64 0, .int .i64 0]) (t := 39) ?hr ?_; (case hd => rfl); (case hg => rfl); (case hr => first | (go_simp; done) | (go_simp; rfl)); intro gb203 hg w20 hbox hb; have n0_ := Aside0.mk (Kd.R_below (by (with_reducible repeat (first | apply Kd.R_alloc | apply Kd.R_drewN | apply Kd.R_drew)); exact HO0_0.out) hb); have n1_ := Aside0.mk (blk_below (g := gb202) (o := .cells #[.slice Ao18 l0_0.length co18, .int .i64 a0_1, .bool a0_2, .bool a0_3, .int .i64 a0_4, .int .i64 a0_5] 39 (0, 0)) (by (with_reducible repeat (first | refine blk_drewN ?_ _ | refine blk_drew ?_ | refine blk_alloc ?_ _)); exact BK202.out) hb); have n2_ := Aside0.mk (Kept.below (S := (fun k_ => P0_0_ k_)) (by repeat (first | (with_reducible first | exact HK.out | apply Kept.alloc | apply Kept.drewN | apply Kept.drew | refine Kept.setCell ?_ (.inr GW202.out) _) | exact HK.out)) hb); have n3_ := Aside0.mk (below_step (by repeat (first | (with_reducible first | exact HB.out | apply below_alloc | apply pw_below_drewN | apply below_drew1 | refine below_set ?_ GE202.out) | exact HB.out)) hb); have n4_ := Aside0.mk (hbox); have n5_ := Aside0.mk ((by rw [hg]; exact (by first | exact HK.out.1 | exact (show Kept w _ (fun k_ => P0_0_ k_) from by repeat (first | (with_reducible first | exact HK.out | apply Kept.alloc | apply Kept.drewN | apply Kept.drew | refine Kept.setCell ?_ (.inr GW202.out) _) | exact HK.out)).1) : w.heap.size ≤ gb203)); have n6_ := Aside0.mk ((by rw [hg]; exact (below_size (by repeat (first | (with_reducible first | exact HB.out | apply below_alloc | apply pw_below_drewN | apply below_drew1 | refine below_set ?_ GE202.out) | exact HB.out))) : w0.heap.size ≤ gb203)); have n7_ := Aside0.mk ((by rw [hg]; exact Nat.ne_of_lt (blk_lt (g := gb202) (o := .cells #[.slice Ao18 l0_0.length co18, .int .i64 a0_1, .bool a0_2, .bool a0_3, .int .i64 a0_4, .int .i64 a0_5] 39 (0, 0)) (by (with_reducible repeat (first | refine blk_drewN ?_ _ | refine blk_drew ?_ | refine blk_alloc ?_ _)); exact BK202.out)) : gb202 ≠ gb203)); have n8_ := Aside0.mk ((by rw [hg]; exact Nat.ne_of_gt (blk_lt (g := gb202) (o := .cells #[.slice Ao18 l0_0.length co18, .int .i64 a0_1, .bool a0_2, .bool a0_3, .int .i64 a0_4, .int .i64 a0_5] 39 (0, 0)) (by (with_reducible repeat (first | refine blk_drewN ?_ _ | refine blk_drew ?_ | refine blk_alloc ?_ _)); exact BK202.out)) : gb203 ≠ gb202)); clear HO0_0; clear BK202; clear HK; clear HB; have HO0_0 := n0_; have BK202 := n1_; have HK := n2_; have HB := n3_; have BK203 := n4_; have GW203 := n5_; have GE203 := n6_; have NB202_203 := n7_; have NB203_202 := n8_; clear n0_ n1_ n2_ n3_ n4_ n5_ n6_ n7_ n8_; clear hb hbox hg) | ((with_reducible refine gate_callee (f := 55) rfl ?_); refine goesL_ (some 13) rfl rfl Try.func55 (by kernel_rfl) rfl #[.string a1] rfl (by (try simp only [List.map_toArray, List.map_cons, List.map_nil]); first | done | rfl | (simp only [List.length_drop, List.length_take]; rfl)) ?_; (with_reducible refine (forebearref03_Name.calls k a1 true _ A4.out).mono ?_); rintro e w' ⟨rfl, ⟨nd, rfl⟩⟩; refine ⟨_, rfl, ?_⟩; have hnb21 := NB202_203.out; have hnc21 := NB203_202.out; have hcz22_0 : w20.cell? ⟨gb202, 0, none⟩ = some (.slice Ao18 l0_0.length co18) := (blk_cell BK202.out 0).trans rfl; have hcz22_1 : w20.cell? ⟨gb202, 1, none⟩ = some (.int .i64 a0_1) := (blk_cell BK202.out 1).trans rfl; have hcz22_2 : w20.cell? ⟨gb202, 2, none⟩ = some (.bool a0_2) := (blk_cell BK202.out 2).trans rfl; have hcz22_3 : w20.cell? ⟨gb202, 3, none⟩ = some (.bool a0_3) := (blk_cell BK202.out 3).trans rfl; have hcz22_4 : w20.cell? ⟨gb202, 4, none⟩ = some (.int .i64 a0_4) := (blk_cell BK202.out 4).trans rfl; have hcz22_5 : w20.cell? ⟨gb202, 5, none⟩ = some (.int .i64 a0_5) := (blk_cell BK202.out 5).trans rfl; have hfz22_0 := blk_frozen BK202.out 0; have hfz22_1 := blk_frozen BK202.out 1; have hfz22_2 := blk_frozen BK202.out 2; have hfz22_3 := blk_frozen BK202.out 3; have hfz22_4 := blk_frozen BK202.out 4; have hfz22_5 := blk_frozen BK202.out 5) | ((with_reducible refine gate_callee (f := 56) rfl ?_); refine goesL_ (some 18) rfl rfl Try.func56 (by kernel_rfl) rfl #[.agg #[.slice Ao18 l0_0.length co18, .int .i64 a0_1, .bool a0_2, .bool a0_3, .int .i64 a0_4, .int .i64 a0_5], .string a1] rfl (by (try simp only [List.map_toArray, List.map_cons, List.map_nil]); first | done | rfl | (simp only [List.length_drop, List.length_take]; rfl)) ?_; (with_reducible refine (forebearref06_At.calls k _ _ l0_0 a0_1 a0_2 a0_3 a0_4 a0_5 a1 t205 _ ?side1 ?side2 A6.out).mono ?_); (case side1 => repeat (first | exact (Kd.R_reads' HO0_0.out).2.2 | (with_reducible refine Kd.C_alloc ?_ _) | (with_reducible refine Kd.C_drewN ?_ _) | (with_reducible refine Kd.C_drew ?_))); (case side2 => exact (Kd.R_reads' HO0_0.out).2.1); rintro e w23 ⟨rfl, hb⟩; refine ⟨_, rfl, ?_⟩; have n0_ := Aside0.mk (Kd.R_below (by (with_reducible repeat (first | apply Kd.R_alloc | apply Kd.R_drewN | apply Kd.R_drew)); exact HO0_0.out) hb); have n1_ := Aside0.mk (blk_below (g := gb202) (o := .cells #[.slice Ao18 l0_0.length co18, .int .i64 a0_1, .bool a0_2, .bool a0_3, .int .i64 a0_4, .int .i64 a0_5] 39 (0, 0)) (by (with_reducible repeat (first | refine blk_drewN ?_ _ | refine blk_drew ?_ | refine blk_alloc ?_ _)); exact BK202.out) hb); have n2_ := Aside0.mk (blk_below (g := gb203) (o := .cells #[.slice none 0 0, .int .i64 0, .bool false, .bool false, .int .i64 0, .int .i64 0] 39 (0, 0)) (by (with_reducible repeat (first | refine blk_drewN ?_ _ | refine blk_drew ?_ | refine blk_alloc ?_ _)); exact BK203.out) hb); have n3_ := Aside0.mk (Kept.below (S := (fun k_ => P0_0_ k_)) (by repeat (first | (with_reducible first | exact HK.out | apply Kept.alloc | apply Kept.drewN | apply Kept.drew | refine Kept.setCell ?_ (.inr GW202.out) _ | refine Kept.setCell ?_ (.inr GW203.out) _) | exact HK.out)) hb); have n4_ := Aside0.mk (below_step (by repeat (first | (with_reducible first | exact HB.out | apply below_alloc | apply pw_below_drewN | apply below_drew1 | refine below_set ?_ GE202.out | refine below_set ?_ GE203.out) | exact HB.out)) hb); clear HO0_0; clear BK202; clear BK203; clear HK; clear HB; have HO0_0 := n0_; have BK202 := n1_; have BK203 := n2_; have HK := n3_; have HB := n4_; clear n0_ n1_ n2_ n3_ n4_; (try clear hb); (try clear hb2); (try clear hk); (try clear hi); have hcz24_0 : w23.cell? ⟨gb202, 0, none⟩ = some (.slice Ao18 l0_0.length co18) := (blk_cell BK202.out 0).trans rfl; have hcz24_1 : w23.cell? ⟨gb202, 1, none⟩ = some (.int .i64 a0_1) := (blk_cell BK202.out 1).trans rfl; have hcz24_2 : w23.cell? ⟨gb202, 2, none⟩ = some (.bool a0_2) := (blk_cell BK202.out 2).trans rfl; have hcz24_3 : w23.cell? ⟨gb202, 3, none⟩ = some (.bool a0_3) := (blk_cell BK202.out 3).trans rfl; have hcz24_4 : w23.cell? ⟨gb202, 4, none⟩ = some (.int .i64 a0_4) := (blk_cell BK202.out 4).trans rfl; have hcz24_5 : w23.cell? ⟨gb202, 5, none⟩ = some (.int .i64 a0_5) := (blk_cell BK202.out 5).trans rfl; have hfz24_0 := blk_frozen BK202.out 0; have hfz24_1 := blk_frozen BK202.out 1; have hfz24_2 := blk_frozen BK202.out 2; have hfz24_3 := blk_frozen BK202.out 3; have hfz24_4 := blk_frozen BK202.out 4; have hfz24_5 := blk_frozen BK202.out 5) | ((with_reducible refine gate_callee (f := 54) rfl ?_); refine goesL_ (some 23) rfl rfl Try.func54 (by kernel_rfl) rfl #[.agg #[.slice Ao18 l0_0.length co18, .int .i64 a0_1, .bool a0_2, .bool a0_3, .int .i64 a0_4, .int .i64 a0_5], .string a1] rfl (by (try simp only [List.map_toArray, List.map_cons, List.map_nil]); first | done | rfl | (simp only [List.length_drop, List.length_take]; rfl)) ?_; (with_reducible refine (forebearref06_Data.calls k _ _ l0_0 a0_1 a0_2 a0_3 a0_4 a0_5 a1 t206 _ ?side1 ?side2 A16.out).mono ?_); (case side1 => repeat (first | exact (Kd.R_reads' HO0_0.out).2.2 | (with_reducible refine Kd.C_alloc ?_ _) | (with_reducible refine Kd.C_drewN ?_ _) | (with_reducible refine Kd.C_drew ?_))); (case side2 => exact (Kd.R_reads' HO0_0.out).2.1); rintro e w25 ⟨rfl, hb⟩; refine ⟨_, rfl, ?_⟩; have n0_ := Aside0.mk (Kd.R_below (by (with_reducible repeat (first | apply Kd.R_alloc | apply Kd.R_drewN | apply Kd.R_drew)); exact HO0_0.out) hb); have n1_ := Aside0.mk (blk_below (g := gb202) (o := .cells #[.slice Ao18 l0_0.length co18, .int .i64 a0_1, .bool a0_2, .bool a0_3, .int .i64 a0_4, .int .i64 a0_5] 39 (0, 0)) (by (with_reducible repeat (first | refine blk_drewN ?_ _ | refine blk_drew ?_ | refine blk_alloc ?_ _)); exact BK202.out) hb); have n2_ := Aside0.mk (blk_below (g := gb203) (o := .cells #[.slice none 0 0, .int .i64 0, .bool false, .bool false, .int .i64 0, .int .i64 0] 39 (0, 0)) (by (with_reducible repeat (first | refine blk_drewN ?_ _ | refine blk_drew ?_ | refine blk_alloc ?_ _)); exact BK203.out) hb); have n3_ := Aside0.mk (Kept.below (S := (fun k_ => P0_0_ k_)) (by repeat (first | (with_reducible first | exact HK.out | apply Kept.alloc | apply Kept.drewN | apply Kept.drew | refine Kept.setCell ?_ (.inr GW202.out) _ | refine Kept.setCell ?_ (.inr GW203.out) _) | exact HK.out)) hb); have n4_ := Aside0.mk (below_step (by repeat (first | (with_reducible first | exact HB.out | apply below_alloc | apply pw_below_drewN | apply below_drew1 | refine below_set ?_ GE202.out | refine below_set ?_ GE203.out) | exact HB.out)) hb); clear HO0_0; clear BK202; clear BK203; clear HK; clear HB; have HO0_0 := n0_; have BK202 := n1_; have BK203 := n2_; have HK := n3_; have HB := n4_; clear n0_ n1_ n2_ n3_ n4_; (try clear hb); (try clear hb2); (try clear hk); (try clear hi)))
   (try simp only [Act.put, List.setIfInBounds_toArray, List.set_cons_zero, List.set_cons_succ])
   go_cut [31] (fun v31 wc => ∃ (kq : Nat) (x31_16 : Bool), v31 = .bool x31_16 ∧ Aside0 (forebearref06_Trim.j0 kq a1 a2 t206 x31_16 l0_0 a0_1 a0_2 a0_3 a0_4 a0_5 = some (r1, r2, r3, r4, r5, r6, r7)) ∧ Aside0 (kq ≤ k) ∧ Aside0 (Kd.R k76 76 wc w0.heap.size (fun k_ => (P0_0_ k_ ∨ w.heap.size ≤ k_)) (.slice Ao18 l0_0.length co18) l0_0) ∧ Aside0 (wc.heap[gb202]? = some (.cells #[(.slice Ao18 l0_0.length co18), .int .i64 a0_1, .bool a0_2, .bool a0_3, .int .i64 a0_4, .int .i64 a0_5] 39 (0, 0))) ∧ Aside0 (wc.heap[gb203]? = some (.cells #[(.slice none 0 0), .int .i64 0, .bool false, .bool false, .int .i64 0, .int .i64 0] 39 (0, 0))) ∧ Aside0 (Kept w wc (fun k_ => P0_0_ k_)) ∧ Aside0 (Below w0.heap.size w0 wc))
   case first =>
    have H := HC17.out
    clear HC17
    by_cases c26 : a2 < 0
    ·rw [if_pos c26] at H
     have c26b0 : decide (a2 < 0) = true := decide_eq_true c26
     clear c26
     (first | rw [c26b0] | (simp only [i64_w, i32_w]; rw [c26b0]) | skip)
     have H' := Aside0.mk H
     clear H
     go_wp2
     go_meet
     case rel => exact ⟨_, (true), (by first | rfl | (simp; done) | (simp [*]; done)), H', ⟨by first | omega | exact Nat.le_refl _⟩, ⟨by (with_reducible repeat (first | apply Kd.R_alloc | apply Kd.R_drewN | apply Kd.R_drew)); exact HO0_0.out⟩, ⟨by (with_reducible repeat (first | refine blk_drewN ?_ _ | refine blk_drew ?_ | refine blk_alloc ?_ _)); exact BK202.out⟩, ⟨by (with_reducible repeat (first | refine blk_drewN ?_ _ | refine blk_drew ?_ | refine blk_alloc ?_ _)); exact BK203.out⟩, ⟨by repeat (first | (with_reducible first | exact HK.out | apply Kept.alloc | apply Kept.drewN | apply Kept.drew | refine Kept.setCell ?_ (.inr GW202.out) _ | refine Kept.setCell ?_ (.inr GW203.out) _) | exact HK.out)⟩, ⟨by repeat (first | (with_reducible first | exact HB.out | apply below_alloc | apply pw_below_drewN | apply below_drew1 | refine below_set ?_ GE202.out | refine below_set ?_ GE203.out) | exact HB.out)⟩⟩
    ·rw [if_neg c26] at H
     have c26b0 : decide (a2 < 0) = false := decide_eq_false c26
     clear c26
     (first | rw [c26b0] | (simp only [i64_w, i32_w]; rw [c26b0]) | skip)
     have H' := Aside0.mk H
     clear H
     go_wp2
     go_meet
     case rel => exact ⟨_, (decide (a2 > (t206.size : Int))), (by first | rfl | (simp; done) | (simp [*]; done)), H', ⟨by first | omega | exact Nat.le_refl _⟩, ⟨by (with_reducible repeat (first | apply Kd.R_alloc | apply Kd.R_drewN | apply Kd.R_drew)); exact HO0_0.out⟩, ⟨by (with_reducible repeat (first | refine blk_drewN ?_ _ | refine blk_drew ?_ | refine blk_alloc ?_ _)); exact BK202.out⟩, ⟨by (with_reducible repeat (first | refine blk_drewN ?_ _ | refine blk_drew ?_ | refine blk_alloc ?_ _)); exact BK203.out⟩, ⟨by repeat (first | (with_reducible first | exact HK.out | apply Kept.alloc | apply Kept.drewN | apply Kept.drew | refine Kept.setCell ?_ (.inr GW202.out) _ | refine Kept.setCell ?_ (.inr GW203.out) _) | exact HK.out)⟩, ⟨by repeat (first | (with_reducible first | exact HB.out | apply below_alloc | apply pw_below_drewN | apply below_drew1 | refine below_set ?_ GE202.out | refine below_set ?_ GE203.out) | exact HB.out)⟩⟩
   case rest =>
    clear HC17
    try clear c1
    try clear c2
    try clear p2
    try clear c3
    try clear c5
    try clear c7
    try clear c7b0
    try clear c11
    try clear c21
    try clear c26
    try clear c26b0
    try clear hcz12_0
    try clear hcz12_1
    try clear hcz12_2
    try clear hcz12_3
    try clear hcz12_4
    try clear hcz12_5
    try clear hcz14_0
    try clear hcz14_1
    try clear hcz14_2
    try clear hcz14_3
    try clear hcz14_4
    try clear hcz14_5
    try clear hcz15_0
    try clear hcz15_1
    try clear hcz15_2
    try clear hcz15_3
    try clear hcz15_4
    try clear hcz15_5
    try clear hcz22_0
    try clear hcz22_1
    try clear hcz22_2
    try clear hcz22_3
    try clear hcz22_4
    try clear hcz22_5
    try clear hcz24_0
    try clear hcz24_1
    try clear hcz24_2
    try clear hcz24_3
    try clear hcz24_4
    try clear hcz24_5
    try clear hfz12_0
    try clear hfz12_1
    try clear hfz12_2
    try clear hfz12_3
    try clear hfz12_4
    try clear hfz12_5
    try clear hfz14_0
    try clear hfz14_1
    try clear hfz14_2
    try clear hfz14_3
    try clear hfz14_4
    try clear hfz14_5
    try clear hfz15_0
    try clear hfz15_1
    try clear hfz15_2
    try clear hfz15_3
    try clear hfz15_4
    try clear hfz15_5
    try clear hfz22_0
    try clear hfz22_1
    try clear hfz22_2
    try clear hfz22_3
    try clear hfz22_4
    try clear hfz22_5
    try clear hfz24_0
    try clear hfz24_1
    try clear hfz24_2
    try clear hfz24_3
    try clear hfz24_4
    try clear hfz24_5
    obtain ⟨kq, x31_16, rfl, HA, HJ16, HO_203000, BK202, BK203, HK, HB⟩ := hcut
    cases kq with
    | zero => exact absurd HA.out (by simp [forebearref06_Trim.j0])
    | succ kj16 =>
     have H := HA.out
     clear HA
     simp only [forebearref06_Trim.j0] at H
     by_cases c27 : x31_16 = true
     ·subst c27
      have H1 : (some (l0_0, a0_1, a0_2, a0_3, a0_4, a0_5, 3)) = some (r1, r2, r3, r4, r5, r6, r7) := by rw [if_pos rfl] at H; exact H
      clear H
      have H := H1
      clear H1
      simp only [Option.some.injEq, Prod.mk.injEq] at H
      obtain ⟨rfl, rfl, rfl, rfl, rfl, rfl, rfl⟩ := H
      have hnb28 := NB202_203.out
      have hnc28 := NB203_202.out
      have hcz29_0 : wc.cell? ⟨gb202, 0, none⟩ = some (.slice Ao18 l0_0.length co18) := (blk_cell BK202.out 0).trans rfl
      have hcz29_1 : wc.cell? ⟨gb202, 1, none⟩ = some (.int .i64 a0_1) := (blk_cell BK202.out 1).trans rfl
      have hcz29_2 : wc.cell? ⟨gb202, 2, none⟩ = some (.bool a0_2) := (blk_cell BK202.out 2).trans rfl
      have hcz29_3 : wc.cell? ⟨gb202, 3, none⟩ = some (.bool a0_3) := (blk_cell BK202.out 3).trans rfl
      have hcz29_4 : wc.cell? ⟨gb202, 4, none⟩ = some (.int .i64 a0_4) := (blk_cell BK202.out 4).trans rfl
      have hcz29_5 : wc.cell? ⟨gb202, 5, none⟩ = some (.int .i64 a0_5) := (blk_cell BK202.out 5).trans rfl
      have hfz29_0 := blk_frozen BK202.out 0
      have hfz29_1 := blk_frozen BK202.out 1
      have hfz29_2 := blk_frozen BK202.out 2
      have hfz29_3 := blk_frozen BK202.out 3
      have hfz29_4 := blk_frozen BK202.out 4
      have hfz29_5 := blk_frozen BK202.out 5
      have hcz30_0 : wc.cell? ⟨gb203, 0, none⟩ = some (.slice none 0 0) := (blk_cell BK203.out 0).trans rfl
      have hcz30_1 : wc.cell? ⟨gb203, 1, none⟩ = some (.int .i64 0) := (blk_cell BK203.out 1).trans rfl
      have hcz30_2 : wc.cell? ⟨gb203, 2, none⟩ = some (.bool false) := (blk_cell BK203.out 2).trans rfl
      have hcz30_3 : wc.cell? ⟨gb203, 3, none⟩ = some (.bool false) := (blk_cell BK203.out 3).trans rfl
      have hcz30_4 : wc.cell? ⟨gb203, 4, none⟩ = some (.int .i64 0) := (blk_cell BK203.out 4).trans rfl
      have hcz30_5 : wc.cell? ⟨gb203, 5, none⟩ = some (.int .i64 0) := (blk_cell BK203.out 5).trans rfl
      have hfz30_0 := blk_frozen BK203.out 0
      have hfz30_1 := blk_frozen BK203.out 1
      have hfz30_2 := blk_frozen BK203.out 2
      have hfz30_3 := blk_frozen BK203.out 3
      have hfz30_4 := blk_frozen BK203.out 4
      have hfz30_5 := blk_frozen BK203.out 5
      go_wp2
      refine bodyPost_ret (results_ct rfl _ _ gb203 39 #[.slice Ao18 l0_0.length co18, .int .i64 a0_1, .bool a0_2, .bool a0_3, .int .i64 a0_4, .int .i64 a0_5] (0, 0) _ rfl (by (with_reducible repeat (first | refine blk_drewN ?_ _ | refine blk_drew ?_ | refine blk_alloc ?_ _)); refine blk_put (cs := #[.slice Ao18 l0_0.length co18, .int .i64 a0_1, .bool a0_2, .bool a0_3, .int .i64 a0_4, .int .i64 0]) ?_ 5 _ rfl; (with_reducible repeat (first | refine blk_drewN ?_ _ | refine blk_drew ?_ | refine blk_alloc ?_ _)); refine blk_put (cs := #[.slice Ao18 l0_0.length co18, .int .i64 a0_1, .bool a0_2, .bool a0_3, .int .i64 0, .int .i64 0]) ?_ 4 _ rfl; (with_reducible repeat (first | refine blk_drewN ?_ _ | refine blk_drew ?_ | refine blk_alloc ?_ _)); refine blk_put (cs := #[.slice Ao18 l0_0.length co18, .int .i64 a0_1, .bool a0_2, .bool false, .int .i64 0, .int .i64 0]) ?_ 3 _ rfl; (with_reducible repeat (first | refine blk_drewN ?_ _ | refine blk_drew ?_ | refine blk_alloc ?_ _)); refine blk_put (cs := #[.slice Ao18 l0_0.length co18, .int .i64 a0_1, .bool false, .bool false, .int .i64 0, .int .i64 0]) ?_ 2 _ rfl; (with_reducible repeat (first | refine blk_drewN ?_ _ | refine blk_drew ?_ | refine blk_alloc ?_ _)); refine blk_put (cs := #[.slice Ao18 l0_0.length co18, .int .i64 0, .bool false, .bool false, .int .i64 0, .int .i64 0]) ?_ 1 _ rfl; (with_reducible repeat (first | refine blk_drewN ?_ _ | refine blk_drew ?_ | refine blk_alloc ?_ _)); refine blk_put (cs := #[.slice none 0 0, .int .i64 0, .bool false, .bool false, .int .i64 0, .int .i64 0]) ?_ 0 _ rfl; (with_reducible repeat (first | refine blk_drewN ?_ _ | refine blk_drew ?_ | refine blk_alloc ?_ _)); exact BK203.out) Try.underlying39 rfl (by kernel_rfl)) rfl ?_
      exact ⟨_, by first | rfl | (simp [errW_none, errW_some] <;> rfl) | (simp [*, errW_none, errW_some] <;> rfl), by (with_reducible repeat (first | apply Kd.R_alloc | apply Kd.R_drewN | apply Kd.R_drew)); exact Kd.R_mono (Kd.R_far (p := ⟨gb203, 5, none⟩) (Kd.R_far (p := ⟨gb203, 4, none⟩) (Kd.R_far (p := ⟨gb203, 3, none⟩) (Kd.R_far (p := ⟨gb203, 2, none⟩) (Kd.R_far (p := ⟨gb203, 1, none⟩) (Kd.R_far (p := ⟨gb203, 0, none⟩) (Kd.R_types HO_203000.out BK203.out (by decide)) (fun _ hk => hk.2) (.slice Ao18 l0_0.length co18)) (fun _ hk => hk.2) (.int .i64 a0_1)) (fun _ hk => hk.2) (.bool a0_2)) (fun _ hk => hk.2) (.bool a0_3)) (fun _ hk => hk.2) (.int .i64 a0_4)) (fun _ hk => hk.2) (.int .i64 a0_5)) (fun _ hk => hk.1), by repeat (first | (with_reducible first | exact HB.out | apply below_alloc | apply pw_below_drewN | apply below_drew1 | refine below_set ?_ GE202.out | refine below_set ?_ GE203.out) | exact HB.out), by repeat (first | (with_reducible first | exact HK.out | apply Kept.alloc | apply Kept.drewN | apply Kept.drew | refine Kept.setCell ?_ (.inr GW202.out) _ | refine Kept.setCell ?_ (.inr GW203.out) _) | exact HK.out)⟩
     ·replace c27 := Bool.eq_false_iff.mpr c27
      subst c27
      have H1 : ((forebearref06_next.f kj16 l0_0 a0_1 a0_2 a0_3 a0_4 a0_5).bind fun bt207 => (if bt207.2.2.2.2.2.2.1 = true then (if 0 ≤ a2 then (if a2 ≤ (t206.size : Int) then ((forebearref06_with.f kj16 bt207.1 a1 (t206.extract 0 (a2 : Int).toNat)).bind fun t218 => (some (t218, bt207.2.1, bt207.2.2.1, bt207.2.2.2.1, bt207.2.2.2.2.1, bt207.2.2.2.2.2.1, 0))) else (none)) else (none)) else (some (bt207.1, bt207.2.1, bt207.2.2.1, bt207.2.2.2.1, bt207.2.2.2.2.1, bt207.2.2.2.2.2.1, 8)))) = some (r1, r2, r3, r4, r5, r6, r7) := by rw [if_neg (show ¬ (false = true) by decide)] at H; exact H
      clear H
      have H := H1
      clear H1
      replace H := Option.bind_eq_some_iff.mp H
      obtain ⟨⟨t207, t210, t211, t212, t213, t214, t215, t216⟩, A310, H⟩ := H
      replace H : (if t215 = true then (if 0 ≤ a2 then (if a2 ≤ (t206.size : Int) then ((forebearref06_with.f kj16 t207 a1 (t206.extract 0 (a2 : Int).toNat)).bind fun t218 => (some (t218, t210, t211, t212, t213, t214, 0))) else (none)) else (none)) else (some (t207, t210, t211, t212, t213, t214, 8))) = some (r1, r2, r3, r4, r5, r6, r7) := H
      have A31 := Aside0.mk A310
      clear A310
      by_cases c32 : t215 = true
      ·subst c32
       have H1 : (if 0 ≤ a2 then (if a2 ≤ (t206.size : Int) then ((forebearref06_with.f kj16 t207 a1 (t206.extract 0 (a2 : Int).toNat)).bind fun t218 => (some (t218, t210, t211, t212, t213, t214, 0))) else (none)) else (none)) = some (r1, r2, r3, r4, r5, r6, r7) := by rw [if_pos rfl] at H; exact H
       clear H
       have H := H1
       clear H1
       by_cases c33 : 0 ≤ a2
       ·rw [if_pos c33] at H
        have c33b0 := eq_true c33
        have c33b1 : decide (0 ≤ a2) = true := decide_eq_true c33
        clear c33
        by_cases c34 : a2 ≤ (t206.size : Int)
        ·rw [if_pos c34] at H
         have c34b0 := eq_true c34
         have c34b1 : decide (a2 ≤ (t206.size : Int)) = true := decide_eq_true c34
         clear c34
         replace H := Option.bind_eq_some_iff.mp H
         obtain ⟨t218, A350, H⟩ := H
         replace H : (some (t218, t210, t211, t212, t213, t214, 0)) = some (r1, r2, r3, r4, r5, r6, r7) := H
         have A35 := Aside0.mk A350
         clear A350
         simp only [Option.some.injEq, Prod.mk.injEq] at H
         obtain ⟨rfl, rfl, rfl, rfl, rfl, rfl, rfl⟩ := H
         have hnb36 := NB202_203.out
         have hnc36 := NB203_202.out
         have hcz37_0 : wc.cell? ⟨gb202, 0, none⟩ = some (.slice Ao18 l0_0.length co18) := (blk_cell BK202.out 0).trans rfl
         have hcz37_1 : wc.cell? ⟨gb202, 1, none⟩ = some (.int .i64 a0_1) := (blk_cell BK202.out 1).trans rfl
         have hcz37_2 : wc.cell? ⟨gb202, 2, none⟩ = some (.bool a0_2) := (blk_cell BK202.out 2).trans rfl
         have hcz37_3 : wc.cell? ⟨gb202, 3, none⟩ = some (.bool a0_3) := (blk_cell BK202.out 3).trans rfl
         have hcz37_4 : wc.cell? ⟨gb202, 4, none⟩ = some (.int .i64 a0_4) := (blk_cell BK202.out 4).trans rfl
         have hcz37_5 : wc.cell? ⟨gb202, 5, none⟩ = some (.int .i64 a0_5) := (blk_cell BK202.out 5).trans rfl
         have hfz37_0 := blk_frozen BK202.out 0
         have hfz37_1 := blk_frozen BK202.out 1
         have hfz37_2 := blk_frozen BK202.out 2
         have hfz37_3 := blk_frozen BK202.out 3
         have hfz37_4 := blk_frozen BK202.out 4
         have hfz37_5 := blk_frozen BK202.out 5
         try go_wp2_with (first | ((with_reducible refine gate_callee (f := 57) rfl ?_); refine goesL_ (some 35) rfl rfl Try.func57 (by kernel_rfl) rfl #[.agg #[.slice Ao18 l0_0.length co18, .int .i64 a0_1, .bool a0_2, .bool a0_3, .int .i64 a0_4, .int .i64 a0_5]] rfl (by (try simp only [List.map_toArray, List.map_cons, List.map_nil]); first | done | rfl | (simp only [List.length_drop, List.length_take]; rfl)) ?_; (with_reducible refine (forebearref06_next.calls kj16 (fun k_ => some k_ = (.slice Ao18 l0_0.length co18 : Value).ownBlock) (.slice Ao18 l0_0.length co18) l0_0 a0_1 a0_2 a0_3 a0_4 a0_5 t207 t210 t211 t212 t213 t214 true t216 w0 _ ?side1 ?side2 A31.out).mono ?_); (case side1 => repeat (first | (with_reducible first | exact HB.out | apply below_alloc | apply pw_below_drewN | apply below_drew1 | refine below_set ?_ GE202.out | refine below_set ?_ GE203.out) | exact HB.out)); (case side2 => exact Kd.R_tight rfl HO_203000.out); rintro e w38 ⟨v208, rfl, ho0, hb, hkp⟩; refine ⟨_, rfl, ?_⟩; have n0_ := Aside0.mk (blk_kept (by (with_reducible repeat (first | refine blk_drewN ?_ _ | refine blk_drew ?_ | refine blk_alloc ?_ _)); exact BK202.out) hkp (fun hs_ => (fun e_ => (Kd.R_ne HO_203000.out BK202.out (by decide)) e_) hs_)); have n1_ := Aside0.mk (blk_kept (by (with_reducible repeat (first | refine blk_drewN ?_ _ | refine blk_drew ?_ | refine blk_alloc ?_ _)); exact BK203.out) hkp (fun hs_ => (fun e_ => (Kd.R_ne HO_203000.out BK203.out (by decide)) e_) hs_)); have n2_ := Aside0.mk (Kd.R_mono (ok' := fun k_ => (P0_0_ k_ ∨ w.heap.size ≤ k_)) ho0 (fun k_ hk_ => Or.elim hk_ (fun hs_ => (HO_203000.out.1 k_ (hs_).symm)) (fun hn_ => (.inr (Nat.le_trans (by first | exact HK.out.1 | exact (show Kept w _ (fun k_ => P0_0_ k_) from by repeat (first | (with_reducible first | exact HK.out | apply Kept.alloc | apply Kept.drewN | apply Kept.drew | refine Kept.setCell ?_ (.inr GW202.out) _ | refine Kept.setCell ?_ (.inr GW203.out) _) | exact HK.out)).1) hn_))))); have n3_ := Aside0.mk (Kept.then_ (S := (fun k_ => P0_0_ k_)) (by repeat (first | (with_reducible first | exact HK.out | apply Kept.alloc | apply Kept.drewN | apply Kept.drew | refine Kept.setCell ?_ (.inr GW202.out) _ | refine Kept.setCell ?_ (.inr GW203.out) _) | exact HK.out)) hkp (fun k_ hs_ => (fun e_ => (HO_203000.out.1 k_ e_.symm)) hs_)); have n4_ := Aside0.mk (hb); clear BK202; clear BK203; clear HK; clear HB; clear HO_203000; have BK202 := n0_; have BK203 := n1_; have HO209 := n2_; have HK := n3_; have HB := n4_; clear n0_ n1_ n2_ n3_ n4_; (try clear hb); (try clear hkp); (try clear ho0)) | ((with_reducible refine gate_dst (N := 9) rfl ?_); (try (refine gate_guard (by rfl) ?_; dsimp only)); refine box_event ?hg (N := 9) ?hd (cs := #[.slice none 0 0, .int .i64 0, .bool false, .bool false, .int .i64 0, .int .i64 0]) (t := 39) ?hr ?_; (case hd => rfl); (case hg => rfl); (case hr => first | (go_simp; done) | (go_simp; rfl)); intro gb217 hg w39 hbox hb; have n0_ := Aside0.mk (Kd.R_below (by (with_reducible repeat (first | apply Kd.R_alloc | apply Kd.R_drewN | apply Kd.R_drew)); exact HO209.out) hb); have n1_ := Aside0.mk (blk_below (g := gb202) (o := .cells #[.slice Ao18 l0_0.length co18, .int .i64 a0_1, .bool a0_2, .bool a0_3, .int .i64 a0_4, .int .i64 a0_5] 39 (0, 0)) (by (with_reducible repeat (first | refine blk_drewN ?_ _ | refine blk_drew ?_ | refine blk_alloc ?_ _)); exact BK202.out) hb); have n2_ := Aside0.mk (blk_below (g := gb203) (o := .cells #[.slice none 0 0, .int .i64 0, .bool false, .bool false, .int .i64 0, .int .i64 0] 39 (0, 0)) (by (with_reducible repeat (first | refine blk_drewN ?_ _ | refine blk_drew ?_ | refine blk_alloc ?_ _)); exact BK203.out) hb); have n3_ := Aside0.mk (Kept.below (S := (fun k_ => P0_0_ k_)) (by repeat (first | (with_reducible first | exact HK.out | apply Kept.alloc | apply Kept.drewN | apply Kept.drew | refine Kept.setCell ?_ (.inr GW202.out) _ | refine Kept.setCell ?_ (.inr GW203.out) _) | exact HK.out)) hb); have n4_ := Aside0.mk (below_step (by repeat (first | (with_reducible first | exact HB.out | apply below_alloc | apply pw_below_drewN | apply below_drew1 | refine below_set ?_ GE202.out | refine below_set ?_ GE203.out) | exact HB.out)) hb); have n5_ := Aside0.mk (hbox); have n6_ := Aside0.mk ((by rw [hg]; exact (by first | exact HK.out.1 | exact (show Kept w _ (fun k_ => P0_0_ k_) from by repeat (first | (with_reducible first | exact HK.out | apply Kept.alloc | apply Kept.drewN | apply Kept.drew | refine Kept.setCell ?_ (.inr GW202.out) _ | refine Kept.setCell ?_ (.inr GW203.out) _) | exact HK.out)).1) : w.heap.size ≤ gb217)); have n7_ := Aside0.mk ((by rw [hg]; exact (below_size (by repeat (first | (with_reducible first | exact HB.out | apply below_alloc | apply pw_below_drewN | apply below_drew1 | refine below_set ?_ GE202.out | refine below_set ?_ GE203.out) | exact HB.out))) : w0.heap.size ≤ gb217)); have n8_ := Aside0.mk ((by rw [hg]; exact Nat.ne_of_lt (blk_lt (g := gb202) (o := .cells #[.slice Ao18 l0_0.length co18, .int .i64 a0_1, .bool a0_2, .bool a0_3, .int .i64 a0_4, .int .i64 a0_5] 39 (0, 0)) (by (with_reducible repeat (first | refine blk_drewN ?_ _ | refine blk_drew ?_ | refine blk_alloc ?_ _)); exact BK202.out)) : gb202 ≠ gb217)); have n9_ := Aside0.mk ((by rw [hg]; exact Nat.ne_of_gt (blk_lt (g := gb202) (o := .cells #[.slice Ao18 l0_0.length co18, .int .i64 a0_1, .bool a0_2, .bool a0_3, .int .i64 a0_4, .int .i64 a0_5] 39 (0, 0)) (by (with_reducible repeat (first | refine blk_drewN ?_ _ | refine blk_drew ?_ | refine blk_alloc ?_ _)); exact BK202.out)) : gb217 ≠ gb202)); have n10_ := Aside0.mk ((by rw [hg]; exact Nat.ne_of_lt (blk_lt (g := gb203) (o := .cells #[.slice none 0 0, .int .i64 0, .bool false, .bool false, .int .i64 0, .int .i64 0] 39 (0, 0)) (by (with_reducible repeat (first | refine blk_drewN ?_ _ | refine blk_drew ?_ | refine blk_alloc ?_ _)); exact BK203.out)) : gb203 ≠ gb217)); have n11_ := Aside0.mk ((by rw [hg]; exact Nat.ne_of_gt (blk_lt (g := gb203) (o := .cells #[.slice none 0 0, .int .i64 0, .bool false, .bool false, .int .i64 0, .int .i64 0] 39 (0, 0)) (by (with_reducible repeat (first | refine blk_drewN ?_ _ | refine blk_drew ?_ | refine blk_alloc ?_ _)); exact BK203.out)) : gb217 ≠ gb203)); clear HO209; clear BK202; clear BK203; clear HK; clear HB; have HO209 := n0_; have BK202 := n1_; have BK203 := n2_; have HK := n3_; have HB := n4_; have BK217 := n5_; have GW217 := n6_; have GE217 := n7_; have NB202_217 := n8_; have NB217_202 := n9_; have NB203_217 := n10_; have NB217_203 := n11_; clear n0_ n1_ n2_ n3_ n4_ n5_ n6_ n7_ n8_ n9_ n10_ n11_; clear hb hbox hg; obtain ⟨Ao40, co40, eo40⟩ := Kd.R_slice HO209.out; subst eo40; have hnb41 := NB217_202.out; have hnc41 := NB202_217.out; have hnb42 := NB217_203.out; have hnc42 := NB203_217.out; have hcz43_0 : w39.cell? ⟨gb217, 0, none⟩ = some (.slice none 0 0) := (blk_cell BK217.out 0).trans rfl; have hcz43_1 : w39.cell? ⟨gb217, 1, none⟩ = some (.int .i64 0) := (blk_cell BK217.out 1).trans rfl; have hcz43_2 : w39.cell? ⟨gb217, 2, none⟩ = some (.bool false) := (blk_cell BK217.out 2).trans rfl; have hcz43_3 : w39.cell? ⟨gb217, 3, none⟩ = some (.bool false) := (blk_cell BK217.out 3).trans rfl; have hcz43_4 : w39.cell? ⟨gb217, 4, none⟩ = some (.int .i64 0) := (blk_cell BK217.out 4).trans rfl; have hcz43_5 : w39.cell? ⟨gb217, 5, none⟩ = some (.int .i64 0) := (blk_cell BK217.out 5).trans rfl; have hfz43_0 := blk_frozen BK217.out 0; have hfz43_1 := blk_frozen BK217.out 1; have hfz43_2 := blk_frozen BK217.out 2; have hfz43_3 := blk_frozen BK217.out 3; have hfz43_4 := blk_frozen BK217.out 4; have hfz43_5 := blk_frozen BK217.out 5))
         have n0_ : Aside0 (Kd.R k76 76 ((((((w39.setCell ⟨gb217, 0, none⟩ (.slice Ao40 t207.length co40)).setCell ⟨gb217, 1, none⟩ (.int .i64 t210)).setCell ⟨gb217, 2, none⟩ (.bool t211)).setCell ⟨gb217, 3, none⟩ (.bool t212)).setCell ⟨gb217, 4, none⟩ (.int .i64 t213)).setCell ⟨gb217, 5, none⟩ (.int .i64 t214)) w0.heap.size (fun k_ => (P0_0_ k_ ∨ w.heap.size ≤ k_)) (.slice Ao40 t207.length co40) t207) := ⟨by (with_reducible repeat (first | apply Kd.R_alloc | apply Kd.R_drewN | apply Kd.R_drew)); exact Kd.R_mono (Kd.R_far (p := ⟨gb217, 5, none⟩) (Kd.R_far (p := ⟨gb217, 4, none⟩) (Kd.R_far (p := ⟨gb217, 3, none⟩) (Kd.R_far (p := ⟨gb217, 2, none⟩) (Kd.R_far (p := ⟨gb217, 1, none⟩) (Kd.R_far (p := ⟨gb217, 0, none⟩) (Kd.R_types HO209.out BK217.out (by decide)) (fun _ hk => hk.2) (.slice Ao40 t207.length co40)) (fun _ hk => hk.2) (.int .i64 t210)) (fun _ hk => hk.2) (.bool t211)) (fun _ hk => hk.2) (.bool t212)) (fun _ hk => hk.2) (.int .i64 t213)) (fun _ hk => hk.2) (.int .i64 t214)) (fun _ hk => hk.1)⟩
         have n1_ : Aside0 (((((((w39.setCell ⟨gb217, 0, none⟩ (.slice Ao40 t207.length co40)).setCell ⟨gb217, 1, none⟩ (.int .i64 t210)).setCell ⟨gb217, 2, none⟩ (.bool t211)).setCell ⟨gb217, 3, none⟩ (.bool t212)).setCell ⟨gb217, 4, none⟩ (.int .i64 t213)).setCell ⟨gb217, 5, none⟩ (.int .i64 t214)).heap[gb202]? = some (.cells #[.slice Ao18 l0_0.length co18, .int .i64 a0_1, .bool a0_2, .bool a0_3, .int .i64 a0_4, .int .i64 a0_5] 39 (0, 0))) := ⟨by (with_reducible repeat (first | refine blk_drewN ?_ _ | refine blk_drew ?_ | refine blk_alloc ?_ _)); refine blk_far ?_ NB202_217.out _; (with_reducible repeat (first | refine blk_drewN ?_ _ | refine blk_drew ?_ | refine blk_alloc ?_ _)); refine blk_far ?_ NB202_217.out _; (with_reducible repeat (first | refine blk_drewN ?_ _ | refine blk_drew ?_ | refine blk_alloc ?_ _)); refine blk_far ?_ NB202_217.out _; (with_reducible repeat (first | refine blk_drewN ?_ _ | refine blk_drew ?_ | refine blk_alloc ?_ _)); refine blk_far ?_ NB202_217.out _; (with_reducible repeat (first | refine blk_drewN ?_ _ | refine blk_drew ?_ | refine blk_alloc ?_ _)); refine blk_far ?_ NB202_217.out _; (with_reducible repeat (first | refine blk_drewN ?_ _ | refine blk_drew ?_ | refine blk_alloc ?_ _)); refine blk_far ?_ NB202_217.out _; (with_reducible repeat (first | refine blk_drewN ?_ _ | refine blk_drew ?_ | refine blk_alloc ?_ _)); exact BK202.out⟩
         have n2_ : Aside0 (((((((w39.setCell ⟨gb217, 0, none⟩ (.slice Ao40 t207.length co40)).setCell ⟨gb217, 1, none⟩ (.int .i64 t210)).setCell ⟨gb217, 2, none⟩ (.bool t211)).setCell ⟨gb217, 3, none⟩ (.bool t212)).setCell ⟨gb217, 4, none⟩ (.int .i64 t213)).setCell ⟨gb217, 5, none⟩ (.int .i64 t214)).heap[gb203]? = some (.cells #[.slice none 0 0, .int .i64 0, .bool false, .bool false, .int .i64 0, .int .i64 0] 39 (0, 0))) := ⟨by (with_reducible repeat (first | refine blk_drewN ?_ _ | refine blk_drew ?_ | refine blk_alloc ?_ _)); refine blk_far ?_ NB203_217.out _; (with_reducible repeat (first | refine blk_drewN ?_ _ | refine blk_drew ?_ | refine blk_alloc ?_ _)); refine blk_far ?_ NB203_217.out _; (with_reducible repeat (first | refine blk_drewN ?_ _ | refine blk_drew ?_ | refine blk_alloc ?_ _)); refine blk_far ?_ NB203_217.out _; (with_reducible repeat (first | refine blk_drewN ?_ _ | refine blk_drew ?_ | refine blk_alloc ?_ _)); refine blk_far ?_ NB203_217.out _; (with_reducible repeat (first | refine blk_drewN ?_ _ | refine blk_drew ?_ | refine blk_alloc ?_ _)); refine blk_far ?_ NB203_217.out _; (with_reducible repeat (first | refine blk_drewN ?_ _ | refine blk_drew ?_ | refine blk_alloc ?_ _)); refine blk_far ?_ NB203_217.out _; (with_reducible repeat (first | refine blk_drewN ?_ _ | refine blk_drew ?_ | refine blk_alloc ?_ _)); exact BK203.out⟩
         have n3_ : Aside0 (((((((w39.setCell ⟨gb217, 0, none⟩ (.slice Ao40 t207.length co40)).setCell ⟨gb217, 1, none⟩ (.int .i64 t210)).setCell ⟨gb217, 2, none⟩ (.bool t211)).setCell ⟨gb217, 3, none⟩ (.bool t212)).setCell ⟨gb217, 4, none⟩ (.int .i64 t213)).setCell ⟨gb217, 5, none⟩ (.int .i64 t214)).heap[gb217]? = some (.cells #[.slice Ao40 t207.length co40, .int .i64 t210, .bool t211, .bool t212, .int .i64 t213, .int .i64 t214] 39 (0, 0))) := ⟨by (with_reducible repeat (first | refine blk_drewN ?_ _ | refine blk_drew ?_ | refine blk_alloc ?_ _)); refine blk_put (cs := #[.slice Ao40 t207.length co40, .int .i64 t210, .bool t211, .bool t212, .int .i64 t213, .int .i64 0]) ?_ 5 _ rfl; (with_reducible repeat (first | refine blk_drewN ?_ _ | refine blk_drew ?_ | refine blk_alloc ?_ _)); refine blk_put (cs := #[.slice Ao40 t207.length co40, .int .i64 t210, .bool t211, .bool t212, .int .i64 0, .int .i64 0]) ?_ 4 _ rfl; (with_reducible repeat (first | refine blk_drewN ?_ _ | refine blk_drew ?_ | refine blk_alloc ?_ _)); refine blk_put (cs := #[.slice Ao40 t207.length co40, .int .i64 t210, .bool t211, .bool false, .int .i64 0, .int .i64 0]) ?_ 3 _ rfl; (with_reducible repeat (first | refine blk_drewN ?_ _ | refine blk_drew ?_ | refine blk_alloc ?_ _)); refine blk_put (cs := #[.slice Ao40 t207.length co40, .int .i64 t210, .bool false, .bool false, .int .i64 0, .int .i64 0]) ?_ 2 _ rfl; (with_reducible repeat (first | refine blk_drewN ?_ _ | refine blk_drew ?_ | refine blk_alloc ?_ _)); refine blk_put (cs := #[.slice Ao40 t207.length co40, .int .i64 0, .bool false, .bool false, .int .i64 0, .int .i64 0]) ?_ 1 _ rfl; (with_reducible repeat (first | refine blk_drewN ?_ _ | refine blk_drew ?_ | refine blk_alloc ?_ _)); refine blk_put (cs := #[.slice none 0 0, .int .i64 0, .bool false, .bool false, .int .i64 0, .int .i64 0]) ?_ 0 _ rfl; (with_reducible repeat (first | refine blk_drewN ?_ _ | refine blk_drew ?_ | refine blk_alloc ?_ _)); exact BK217.out⟩
         have n4_ : Aside0 (Kept w ((((((w39.setCell ⟨gb217, 0, none⟩ (.slice Ao40 t207.length co40)).setCell ⟨gb217, 1, none⟩ (.int .i64 t210)).setCell ⟨gb217, 2, none⟩ (.bool t211)).setCell ⟨gb217, 3, none⟩ (.bool t212)).setCell ⟨gb217, 4, none⟩ (.int .i64 t213)).setCell ⟨gb217, 5, none⟩ (.int .i64 t214)) (fun k_ => P0_0_ k_)) := ⟨by repeat (first | (with_reducible first | exact HK.out | apply Kept.alloc | apply Kept.drewN | apply Kept.drew | refine Kept.setCell ?_ (.inr GW202.out) _ | refine Kept.setCell ?_ (.inr GW203.out) _ | refine Kept.setCell ?_ (.inr GW217.out) _) | exact HK.out)⟩
         have n5_ : Aside0 (Below w0.heap.size w0 ((((((w39.setCell ⟨gb217, 0, none⟩ (.slice Ao40 t207.length co40)).setCell ⟨gb217, 1, none⟩ (.int .i64 t210)).setCell ⟨gb217, 2, none⟩ (.bool t211)).setCell ⟨gb217, 3, none⟩ (.bool t212)).setCell ⟨gb217, 4, none⟩ (.int .i64 t213)).setCell ⟨gb217, 5, none⟩ (.int .i64 t214))) := ⟨by repeat (first | (with_reducible first | exact HB.out | apply below_alloc | apply pw_below_drewN | apply below_drew1 | refine below_set ?_ GE202.out | refine below_set ?_ GE203.out | refine below_set ?_ GE217.out) | exact HB.out)⟩
         (try clear HO209)
         (try clear BK202)
         (try clear BK203)
         (try clear BK217)
         (try clear HK)
         (try clear HB)
         generalize ((((((w39.setCell ⟨gb217, 0, none⟩ (.slice Ao40 t207.length co40)).setCell ⟨gb217, 1, none⟩ (.int .i64 t210)).setCell ⟨gb217, 2, none⟩ (.bool t211)).setCell ⟨gb217, 3, none⟩ (.bool t212)).setCell ⟨gb217, 4, none⟩ (.int .i64 t213)).setCell ⟨gb217, 5, none⟩ (.int .i64 t214)) = w44 at n0_ n1_ n2_ n3_ n4_ n5_ ⊢
         have HO209 := n0_
         have BK202 := n1_
         have BK203 := n2_
         have BK217 := n3_
         have HK := n4_
         have HB := n5_
         clear n0_ n1_ n2_ n3_ n4_ n5_
         have n0_ := Aside0.mk (Kd.R_drew HO209.out)
         have n1_ := Aside0.mk (blk_drew BK202.out)
         have n2_ := Aside0.mk (blk_drew BK203.out)
         have n3_ := Aside0.mk (blk_drew BK217.out)
         have n4_ := Aside0.mk (Kept.drew HK.out)
         have n5_ := Aside0.mk (below_drew1 HB.out)
         clear HO209
         clear BK202
         clear BK203
         clear BK217
         clear HK
         clear HB
         have HO209 := n0_
         have BK202 := n1_
         have BK203 := n2_
         have BK217 := n3_
         have HK := n4_
         have HB := n5_
         clear n0_ n1_ n2_ n3_ n4_ n5_
         refine start_ (n := 10) (S := fun w' => w'.cell? ⟨gb217, 0, none⟩ = some (.slice Ao40 t207.length co40) ∧ w'.cell? ⟨gb217, 1, none⟩ = some (.int .i64 t210) ∧ w'.cell? ⟨gb217, 2, none⟩ = some (.bool t211) ∧ w'.cell? ⟨gb217, 3, none⟩ = some (.bool t212) ∧ w'.cell? ⟨gb217, 4, none⟩ = some (.int .i64 t213) ∧ w'.cell? ⟨gb217, 5, none⟩ = some (.int .i64 t214)) (ds := [9]) #[false, false, false, false, false, false, false, false, false, false] (by kernel_rfl) rfl rfl ⟨(blk_cell BK217.out 0).trans rfl, (blk_cell BK217.out 1).trans rfl, (blk_cell BK217.out 2).trans rfl, (blk_cell BK217.out 3).trans rfl, (blk_cell BK217.out 4).trans rfl, (blk_cell BK217.out 5).trans rfl⟩ (fun hHeld => ?_); refine with_tabW forebearref06_Trim.tab11 forebearref06_Trim.bits11 (fun HT_ HW_ => ?_)
         generalize w44.drew = w45 at HO209 BK202 BK203 BK217 HK HB hHeld ⊢
         refine pure_ (i := 0) (N := some 42) (v := ?_) (a' := ?_) #[true, false, false, false, false, false, false, false, false, false] rfl rfl (any_of HT_.out (by kernel_rfl)) (fun _ _ _ h => h) (Or.inl ⟨by rfl, ?_⟩) ?_ ?_
         rotate_left
         ·intro w'
          go_simp
          with_reducible rfl
         rotate_left
         ·simp only [Act.put, List.setIfInBounds_toArray, List.set_cons_zero, List.set_cons_succ, i64_w, i32_w]
          rfl
         refine pure_ (i := 2) (N := some 44) (v := ?_) (a' := ?_) #[true, false, true, false, false, false, false, false, false, false] rfl rfl (any_of HT_.out (by kernel_rfl)) (fun _ _ _ h => h) (Or.inl ⟨by rfl, ?_⟩) ?_ ?_
         rotate_left
         ·intro w'
          go_simp
          with_reducible rfl
         rotate_left
         ·simp only [Act.put, List.setIfInBounds_toArray, List.set_cons_zero, List.set_cons_succ, i64_w, i32_w]
          rfl
         refine pure_ (i := 3) (N := some 45) (v := ?_) (a' := ?_) #[true, false, true, true, false, false, false, false, false, false] rfl rfl (any_of HT_.out (by kernel_rfl)) (fun _ _ _ h => h) (Or.inl ⟨by rfl, ?_⟩) ?_ ?_
         rotate_left
         ·intro w'
          go_simp
          with_reducible rfl
         rotate_left
         ·simp only [Act.put, List.setIfInBounds_toArray, List.set_cons_zero, List.set_cons_succ, i64_w, i32_w]
          rfl
         refine pure_ (i := 4) (N := some 46) (v := ?_) (a' := ?_) #[true, false, true, true, true, false, false, false, false, false] rfl rfl (any_of HT_.out (by kernel_rfl)) (fun _ _ _ h => h) (Or.inl ⟨by rfl, ?_⟩) ?_ ?_
         rotate_left
         ·intro w'
          go_simp
          with_reducible rfl
         rotate_left
         ·simp only [Act.put, List.setIfInBounds_toArray, List.set_cons_zero, List.set_cons_succ, i64_w, i32_w]
          rfl
         refine pure_ (i := 5) (N := some 47) (v := ?_) (a' := ?_) #[true, false, true, true, true, true, false, false, false, false] rfl rfl (any_of HT_.out (by kernel_rfl)) (fun _ _ _ h => h) (Or.inl ⟨by rfl, ?_⟩) ?_ ?_
         rotate_left
         ·intro w'
          go_simp
          with_reducible rfl
         rotate_left
         ·simp only [Act.put, List.setIfInBounds_toArray, List.set_cons_zero, List.set_cons_succ, i64_w, i32_w]
          rfl
         refine pure_ (i := 6) (N := some 48) (v := ?_) (a' := ?_) #[true, false, true, true, true, true, true, false, false, false] rfl rfl (any_of HT_.out (by kernel_rfl)) (fun _ _ _ h => h) (Or.inl ⟨by rfl, ?_⟩) ?_ ?_
         rotate_left
         ·intro w'
          go_simp
          with_reducible rfl
         rotate_left
         ·simp only [Act.put, List.setIfInBounds_toArray, List.set_cons_zero, List.set_cons_succ, i64_w, i32_w]
          rfl
         refine take_ (i := 1) (N := some 43) (v := ?_) (a' := ?_) #[true, true, true, true, true, true, true, false, false, false] rfl rfl (take_ofW HT_.out HW_.out (by kernel_rfl)) (fun _ _ _ h => h) (Or.inl ⟨by rfl, ?_⟩) hHeld ?_ ?_
         rotate_left
         ·rintro w' ⟨s0, s1, s2, s3, s4, s5⟩
          go_simp
          with_reducible rfl
         rotate_left
         ·simp only [Act.put, List.setIfInBounds_toArray, List.set_cons_zero, List.set_cons_succ, i64_w, i32_w]
          rfl
         refine one_ (i := 7) (N := some 49) #[true, true, true, true, true, true, true, true, false, false] rfl rfl (one_of HT_.out (by kernel_rfl)) (by decide) (fun K hK => ?_)
         refine goes_ Try.func58 (by kernel_rfl) rfl #[.slice Ao40 t207.length co40, .agg #[.string a1, .string (t206.extract 0 (a2 : Int).toNat)]] (by rfl) rfl rfl (by (try simp only [List.map_toArray, List.map_cons, List.map_nil]); first | done | rfl | (simp only [List.length_drop, List.length_take]; rfl)) ?_
         with_reducible refine (forebearref06_with.calls kj16 _ _ t207 a1 (t206.extract 0 (a2 : Int).toNat) t218 _ ?side1 ?side2 A35.out).mono ?_
         (case side1 => repeat (first | exact (Kd.R_reads' HO209.out).2.2 | (with_reducible refine Kd.C_alloc ?_ _) | (with_reducible refine Kd.C_drewN ?_ _) | (with_reducible refine Kd.C_drew ?_)))
         (case side2 => exact (Kd.R_reads' HO209.out).2.1)
         rintro e w46 ⟨v219, rfl, ho0, hb⟩
         refine ⟨_, rfl, ?_⟩
         have n0_ := Aside0.mk (Kd.R_elder' (by (with_reducible repeat (first | apply Kd.R_alloc | apply Kd.R_drewN | apply Kd.R_drew)); exact HO209.out) (Kd.R_base ho0) hb)
         have n1_ := Aside0.mk (Kd.R_lower (Kd.R_new' (Kd.R_newM (M := fun k_ => (P0_0_ k_ ∨ w.heap.size ≤ k_)) ho0 (by first | exact HK.out.1 | exact (show Kept w _ (fun k_ => P0_0_ k_) from by repeat (first | (with_reducible first | exact HK.out | apply Kept.alloc | apply Kept.drewN | apply Kept.drew | refine Kept.setCell ?_ (.inr GW202.out) _ | refine Kept.setCell ?_ (.inr GW203.out) _ | refine Kept.setCell ?_ (.inr GW217.out) _) | exact HK.out)).1) (fun k_ h_ => .inr h_)) (Kd.R_lt (by (with_reducible repeat (first | apply Kd.R_alloc | apply Kd.R_drewN | apply Kd.R_drew)); exact HO209.out))) (below_size (by repeat (first | (with_reducible first | exact HB.out | apply below_alloc | apply pw_below_drewN | apply below_drew1 | refine below_set ?_ GE202.out | refine below_set ?_ GE203.out | refine below_set ?_ GE217.out) | exact HB.out))))
         have n2_ := Aside0.mk (blk_below (g := gb202) (o := .cells #[.slice Ao18 l0_0.length co18, .int .i64 a0_1, .bool a0_2, .bool a0_3, .int .i64 a0_4, .int .i64 a0_5] 39 (0, 0)) (by (with_reducible repeat (first | refine blk_drewN ?_ _ | refine blk_drew ?_ | refine blk_alloc ?_ _)); exact BK202.out) hb)
         have n3_ := Aside0.mk (blk_below (g := gb203) (o := .cells #[.slice none 0 0, .int .i64 0, .bool false, .bool false, .int .i64 0, .int .i64 0] 39 (0, 0)) (by (with_reducible repeat (first | refine blk_drewN ?_ _ | refine blk_drew ?_ | refine blk_alloc ?_ _)); exact BK203.out) hb)
         have n4_ := Aside0.mk (blk_below (g := gb217) (o := .cells #[.slice Ao40 t207.length co40, .int .i64 t210, .bool t211, .bool t212, .int .i64 t213, .int .i64 t214] 39 (0, 0)) (by (with_reducible repeat (first | refine blk_drewN ?_ _ | refine blk_drew ?_ | refine blk_alloc ?_ _)); exact BK217.out) hb)
         have n5_ := Aside0.mk (Kept.below (S := (fun k_ => P0_0_ k_)) (by repeat (first | (with_reducible first | exact HK.out | apply Kept.alloc | apply Kept.drewN | apply Kept.drew | refine Kept.setCell ?_ (.inr GW202.out) _ | refine Kept.setCell ?_ (.inr GW203.out) _ | refine Kept.setCell ?_ (.inr GW217.out) _) | exact HK.out)) hb)
         have n6_ := Aside0.mk (below_step (by repeat (first | (with_reducible first | exact HB.out | apply below_alloc | apply pw_below_drewN | apply below_drew1 | refine below_set ?_ GE202.out | refine below_set ?_ GE203.out | refine below_set ?_ GE217.out) | exact HB.out)) hb)
         clear HO209
         clear BK202
         clear BK203
         clear BK217
         clear HK
         clear HB
         have HO209 := n0_
         have HO220 := n1_
         have BK202 := n2_
         have BK203 := n3_
         have BK217 := n4_
         have HK := n5_
         have HB := n6_
         clear n0_ n1_ n2_ n3_ n4_ n5_ n6_
         (try clear hb)
         (try clear hb2)
         (try clear hk)
         (try clear hi)
         (try clear ho0)
         obtain ⟨Ao47, co47, eo47⟩ := Kd.R_slice HO220.out
         (first | subst eo47 | (injection eo47 with f1_ f2_ f3_; have f4_ := f1_.symm; have f5_ := f3_.symm; clear f1_ f2_ f3_; subst f4_; subst f5_))
         refine hK.out _ _ ⟨(blk_cell BK217.out 0).trans rfl, (blk_cell BK217.out 1).trans rfl, (blk_cell BK217.out 2).trans rfl, (blk_cell BK217.out 3).trans rfl, (blk_cell BK217.out 4).trans rfl, (blk_cell BK217.out 5).trans rfl⟩ (fun hHeld => ?_)
         clear hK K
         refine norm_ (a' := ?_) ?_ ?_
         rotate_left
         ·show Act.put _ (some 49) _ = _
          simp only [Act.put, List.setIfInBounds_toArray, List.set_cons_zero, List.set_cons_succ, i64_w, i32_w]
          rfl
         refine pure_ (i := 8) (N := some 50) (v := ?_) (a' := ?_) #[true, true, true, true, true, true, true, true, true, false] rfl rfl (any_of HT_.out (by kernel_rfl)) (fun _ _ _ h => h) (Or.inl ⟨by rfl, ?_⟩) ?_ ?_
         rotate_left
         ·intro w'
          go_simp
          with_reducible rfl
         rotate_left
         ·simp only [Act.put, List.setIfInBounds_toArray, List.set_cons_zero, List.set_cons_succ, i64_w, i32_w]
          rfl
         refine last_ (i := 9) (N := none) #[true, true, true, true, true, true, true, true, true, true] rfl rfl (one_of HT_.out (by kernel_rfl)) (by decide) (fun K hK => ?_)
         have hs48 : w46.cell? ⟨gb217, 0, none⟩ = some (.slice Ao40 t207.length co40) := (blk_cell BK217.out 0).trans rfl
         have hfs48 := blk_frozen BK217.out 0
         have hns48_0 := NB202_217.out
         have hns48_1 := NB203_217.out
         have hms48_0 := NB217_202.out
         have hms48_1 := NB217_203.out
         refine skip_ (w1 := ?_) (by rfl) rfl ?_ ?_
         rotate_left
         ·go_simp
          rfl
         refine hK.out _ _ ?_
         clear hK K
         refine done_ (done_of HT_.out (by kernel_rfl)) ?_
         have hcz49_0 : w46.cell? ⟨gb217, 0, none⟩ = some (.slice Ao40 t207.length co40) := (blk_cell BK217.out 0).trans rfl
         have hcz49_1 : w46.cell? ⟨gb217, 1, none⟩ = some (.int .i64 t210) := (blk_cell BK217.out 1).trans rfl
         have hcz49_2 : w46.cell? ⟨gb217, 2, none⟩ = some (.bool t211) := (blk_cell BK217.out 2).trans rfl
         have hcz49_3 : w46.cell? ⟨gb217, 3, none⟩ = some (.bool t212) := (blk_cell BK217.out 3).trans rfl
         have hcz49_4 : w46.cell? ⟨gb217, 4, none⟩ = some (.int .i64 t213) := (blk_cell BK217.out 4).trans rfl
         have hcz49_5 : w46.cell? ⟨gb217, 5, none⟩ = some (.int .i64 t214) := (blk_cell BK217.out 5).trans rfl
         have hfz49_0 := blk_frozen BK217.out 0
         have hfz49_1 := blk_frozen BK217.out 1
         have hfz49_2 := blk_frozen BK217.out 2
         have hfz49_3 := blk_frozen BK217.out 3
         have hfz49_4 := blk_frozen BK217.out 4
         have hfz49_5 := blk_frozen BK217.out 5
         have hcz50_0 : w46.cell? ⟨gb203, 0, none⟩ = some (.slice none 0 0) := (blk_cell BK203.out 0).trans rfl
         have hcz50_1 : w46.cell? ⟨gb203, 1, none⟩ = some (.int .i64 0) := (blk_cell BK203.out 1).trans rfl
         have hcz50_2 : w46.cell? ⟨gb203, 2, none⟩ = some (.bool false) := (blk_cell BK203.out 2).trans rfl
         have hcz50_3 : w46.cell? ⟨gb203, 3, none⟩ = some (.bool false) := (blk_cell BK203.out 3).trans rfl
         have hcz50_4 : w46.cell? ⟨gb203, 4, none⟩ = some (.int .i64 0) := (blk_cell BK203.out 4).trans rfl
         have hcz50_5 : w46.cell? ⟨gb203, 5, none⟩ = some (.int .i64 0) := (blk_cell BK203.out 5).trans rfl
         have hfz50_0 := blk_frozen BK203.out 0
         have hfz50_1 := blk_frozen BK203.out 1
         have hfz50_2 := blk_frozen BK203.out 2
         have hfz50_3 := blk_frozen BK203.out 3
         have hfz50_4 := blk_frozen BK203.out 4
         have hfz50_5 := blk_frozen BK203.out 5
         try go_wp2
         refine bodyPost_ret (results_ct rfl _ _ gb203 39 #[.slice Ao47 t218.length co47, .int .i64 t210, .bool t211, .bool t212, .int .i64 t213, .int .i64 t214] (0, 0) _ rfl (by (with_reducible repeat (first | refine blk_drewN ?_ _ | refine blk_drew ?_ | refine blk_alloc ?_ _)); refine blk_put (cs := #[.slice Ao47 t218.length co47, .int .i64 t210, .bool t211, .bool t212, .int .i64 t213, .int .i64 0]) ?_ 5 _ rfl; (with_reducible repeat (first | refine blk_drewN ?_ _ | refine blk_drew ?_ | refine blk_alloc ?_ _)); refine blk_put (cs := #[.slice Ao47 t218.length co47, .int .i64 t210, .bool t211, .bool t212, .int .i64 0, .int .i64 0]) ?_ 4 _ rfl; (with_reducible repeat (first | refine blk_drewN ?_ _ | refine blk_drew ?_ | refine blk_alloc ?_ _)); refine blk_put (cs := #[.slice Ao47 t218.length co47, .int .i64 t210, .bool t211, .bool false, .int .i64 0, .int .i64 0]) ?_ 3 _ rfl; (with_reducible repeat (first | refine blk_drewN ?_ _ | refine blk_drew ?_ | refine blk_alloc ?_ _)); refine blk_put (cs := #[.slice Ao47 t218.length co47, .int .i64 t210, .bool false, .bool false, .int .i64 0, .int .i64 0]) ?_ 2 _ rfl; (with_reducible repeat (first | refine blk_drewN ?_ _ | refine blk_drew ?_ | refine blk_alloc ?_ _)); refine blk_put (cs := #[.slice Ao47 t218.length co47, .int .i64 0, .bool false, .bool false, .int .i64 0, .int .i64 0]) ?_ 1 _ rfl; (with_reducible repeat (first | refine blk_drewN ?_ _ | refine blk_drew ?_ | refine blk_alloc ?_ _)); refine blk_put (cs := #[.slice none 0 0, .int .i64 0, .bool false, .bool false, .int .i64 0, .int .i64 0]) ?_ 0 _ rfl; (with_reducible repeat (first | refine blk_drewN ?_ _ | refine blk_drew ?_ | refine blk_alloc ?_ _)); refine blk_far ?_ NB203_217.out _; (with_reducible repeat (first | refine blk_drewN ?_ _ | refine blk_drew ?_ | refine blk_alloc ?_ _)); exact BK203.out) Try.underlying39 rfl (by kernel_rfl)) rfl ?_
         exact ⟨_, by first | rfl | (simp [errW_none, errW_some] <;> rfl) | (simp [*, errW_none, errW_some] <;> rfl), by (with_reducible repeat (first | apply Kd.R_alloc | apply Kd.R_drewN | apply Kd.R_drew)); exact Kd.R_mono (Kd.R_far (p := ⟨gb203, 5, none⟩) (Kd.R_far (p := ⟨gb203, 4, none⟩) (Kd.R_far (p := ⟨gb203, 3, none⟩) (Kd.R_far (p := ⟨gb203, 2, none⟩) (Kd.R_far (p := ⟨gb203, 1, none⟩) (Kd.R_far (p := ⟨gb203, 0, none⟩) (Kd.R_far (p := ⟨gb217, 0, none⟩) (Kd.R_types (Kd.R_types HO220.out BK217.out (by decide)) BK203.out (by decide)) (fun _ hk => hk.1.2) (.slice Ao47 t218.length co47)) (fun _ hk => hk.2) (.slice Ao47 t218.length co47)) (fun _ hk => hk.2) (.int .i64 t210)) (fun _ hk => hk.2) (.bool t211)) (fun _ hk => hk.2) (.bool t212)) (fun _ hk => hk.2) (.int .i64 t213)) (fun _ hk => hk.2) (.int .i64 t214)) (fun _ hk => hk.1.1.1.1), by repeat (first | (with_reducible first | exact HB.out | apply below_alloc | apply pw_below_drewN | apply below_drew1 | refine below_set ?_ GE202.out | refine below_set ?_ GE203.out | refine below_set ?_ GE217.out) | exact HB.out), by repeat (first | (with_reducible first | exact HK.out | apply Kept.alloc | apply Kept.drewN | apply Kept.drew | refine Kept.setCell ?_ (.inr GW202.out) _ | refine Kept.setCell ?_ (.inr GW203.out) _ | refine Kept.setCell ?_ (.inr GW217.out) _) | exact HK.out)⟩
        ·rw [if_neg c34] at H
         exact absurd H (by simp)
       ·rw [if_neg c33] at H
        exact absurd H (by simp)
      ·replace c32 := Bool.eq_false_iff.mpr c32
       subst c32
       have H1 : (some (t207, t210, t211, t212, t213, t214, 8)) = some (r1, r2, r3, r4, r5, r6, r7) := by rw [if_neg (show ¬ (false = true) by decide)] at H; exact H
       clear H
       have H := H1
       clear H1
       simp only [Option.some.injEq, Prod.mk.injEq] at H
       obtain ⟨rfl, rfl, rfl, rfl, rfl, rfl, rfl⟩ := H
       have hnb51 := NB202_203.out
       have hnc51 := NB203_202.out
       have hcz52_0 : wc.cell? ⟨gb202, 0, none⟩ = some (.slice Ao18 l0_0.length co18) := (blk_cell BK202.out 0).trans rfl
       have hcz52_1 : wc.cell? ⟨gb202, 1, none⟩ = some (.int .i64 a0_1) := (blk_cell BK202.out 1).trans rfl
       have hcz52_2 : wc.cell? ⟨gb202, 2, none⟩ = some (.bool a0_2) := (blk_cell BK202.out 2).trans rfl
       have hcz52_3 : wc.cell? ⟨gb202, 3, none⟩ = some (.bool a0_3) := (blk_cell BK202.out 3).trans rfl
       have hcz52_4 : wc.cell? ⟨gb202, 4, none⟩ = some (.int .i64 a0_4) := (blk_cell BK202.out 4).trans rfl
       have hcz52_5 : wc.cell? ⟨gb202, 5, none⟩ = some (.int .i64 a0_5) := (blk_cell BK202.out 5).trans rfl
       have hfz52_0 := blk_frozen BK202.out 0
       have hfz52_1 := blk_frozen BK202.out 1
       have hfz52_2 := blk_frozen BK202.out 2
       have hfz52_3 := blk_frozen BK202.out 3
       have hfz52_4 := blk_frozen BK202.out 4
       have hfz52_5 := blk_frozen BK202.out 5
       go_wp2_with (first | ((with_reducible refine gate_callee (f := 57) rfl ?_); refine goesL_ (some 35) rfl rfl Try.func57 (by kernel_rfl) rfl #[.agg #[.slice Ao18 l0_0.length co18, .int .i64 a0_1, .bool a0_2, .bool a0_3, .int .i64 a0_4, .int .i64 a0_5]] rfl (by (try simp only [List.map_toArray, List.map_cons, List.map_nil]); first | done | rfl | (simp only [List.length_drop, List.length_take]; rfl)) ?_; (with_reducible refine (forebearref06_next.calls kj16 (fun k_ => some k_ = (.slice Ao18 l0_0.length co18 : Value).ownBlock) (.slice Ao18 l0_0.length co18) l0_0 a0_1 a0_2 a0_3 a0_4 a0_5 t207 t210 t211 t212 t213 t214 false t216 w0 _ ?side1 ?side2 A31.out).mono ?_); (case side1 => repeat (first | (with_reducible first | exact HB.out | apply below_alloc | apply pw_below_drewN | apply below_drew1 | refine below_set ?_ GE202.out | refine below_set ?_ GE203.out) | exact HB.out)); (case side2 => exact Kd.R_tight rfl HO_203000.out); rintro e w53 ⟨v208, rfl, ho0, hb, hkp⟩; refine ⟨_, rfl, ?_⟩; have n0_ := Aside0.mk (blk_kept (by (with_reducible repeat (first | refine blk_drewN ?_ _ | refine blk_drew ?_ | refine blk_alloc ?_ _)); exact BK202.out) hkp (fun hs_ => (fun e_ => (Kd.R_ne HO_203000.out BK202.out (by decide)) e_) hs_)); have n1_ := Aside0.mk (blk_kept (by (with_reducible repeat (first | refine blk_drewN ?_ _ | refine blk_drew ?_ | refine blk_alloc ?_ _)); exact BK203.out) hkp (fun hs_ => (fun e_ => (Kd.R_ne HO_203000.out BK203.out (by decide)) e_) hs_)); have n2_ := Aside0.mk (Kd.R_mono (ok' := fun k_ => (P0_0_ k_ ∨ w.heap.size ≤ k_)) ho0 (fun k_ hk_ => Or.elim hk_ (fun hs_ => (HO_203000.out.1 k_ (hs_).symm)) (fun hn_ => (.inr (Nat.le_trans (by first | exact HK.out.1 | exact (show Kept w _ (fun k_ => P0_0_ k_) from by repeat (first | (with_reducible first | exact HK.out | apply Kept.alloc | apply Kept.drewN | apply Kept.drew | refine Kept.setCell ?_ (.inr GW202.out) _ | refine Kept.setCell ?_ (.inr GW203.out) _) | exact HK.out)).1) hn_))))); have n3_ := Aside0.mk (Kept.then_ (S := (fun k_ => P0_0_ k_)) (by repeat (first | (with_reducible first | exact HK.out | apply Kept.alloc | apply Kept.drewN | apply Kept.drew | refine Kept.setCell ?_ (.inr GW202.out) _ | refine Kept.setCell ?_ (.inr GW203.out) _) | exact HK.out)) hkp (fun k_ hs_ => (fun e_ => (HO_203000.out.1 k_ e_.symm)) hs_)); have n4_ := Aside0.mk (hb); clear BK202; clear BK203; clear HK; clear HB; clear HO_203000; have BK202 := n0_; have BK203 := n1_; have HO209 := n2_; have HK := n3_; have HB := n4_; clear n0_ n1_ n2_ n3_ n4_; (try clear hb); (try clear hkp); (try clear ho0)) | ((with_reducible refine gate_dst (N := 9) rfl ?_); (try (refine gate_guard (by rfl) ?_; dsimp only)); refine box_event ?hg (N := 9) ?hd (cs := #[.slice none 0 0, .int .i64 0, .bool false, .bool false, .int .i64 0, .int .i64 0]) (t := 39) ?hr ?_; (case hd => rfl); (case hg => rfl); (case hr => first | (go_simp; done) | (go_simp; rfl)); intro gb217 hg w54 hbox hb; have n0_ := Aside0.mk (Kd.R_below (by (with_reducible repeat (first | apply Kd.R_alloc | apply Kd.R_drewN | apply Kd.R_drew)); exact HO209.out) hb); have n1_ := Aside0.mk (blk_below (g := gb202) (o := .cells #[.slice Ao18 l0_0.length co18, .int .i64 a0_1, .bool a0_2, .bool a0_3, .int .i64 a0_4, .int .i64 a0_5] 39 (0, 0)) (by (with_reducible repeat (first | refine blk_drewN ?_ _ | refine blk_drew ?_ | refine blk_alloc ?_ _)); exact BK202.out) hb); have n2_ := Aside0.mk (blk_below (g := gb203) (o := .cells #[.slice none 0 0, .int .i64 0, .bool false, .bool false, .int .i64 0, .int .i64 0] 39 (0, 0)) (by (with_reducible repeat (first | refine blk_drewN ?_ _ | refine blk_drew ?_ | refine blk_alloc ?_ _)); exact BK203.out) hb); have n3_ := Aside0.mk (Kept.below (S := (fun k_ => P0_0_ k_)) (by repeat (first | (with_reducible first | exact HK.out | apply Kept.alloc | apply Kept.drewN | apply Kept.drew | refine Kept.setCell ?_ (.inr GW202.out) _ | refine Kept.setCell ?_ (.inr GW203.out) _) | exact HK.out)) hb); have n4_ := Aside0.mk (below_step (by repeat (first | (with_reducible first | exact HB.out | apply below_alloc | apply pw_below_drewN | apply below_drew1 | refine below_set ?_ GE202.out | refine below_set ?_ GE203.out) | exact HB.out)) hb); have n5_ := Aside0.mk (hbox); have n6_ := Aside0.mk ((by rw [hg]; exact (by first | exact HK.out.1 | exact (show Kept w _ (fun k_ => P0_0_ k_) from by repeat (first | (with_reducible first | exact HK.out | apply Kept.alloc | apply Kept.drewN | apply Kept.drew | refine Kept.setCell ?_ (.inr GW202.out) _ | refine Kept.setCell ?_ (.inr GW203.out) _) | exact HK.out)).1) : w.heap.size ≤ gb217)); have n7_ := Aside0.mk ((by rw [hg]; exact (below_size (by repeat (first | (with_reducible first | exact HB.out | apply below_alloc | apply pw_below_drewN | apply below_drew1 | refine below_set ?_ GE202.out | refine below_set ?_ GE203.out) | exact HB.out))) : w0.heap.size ≤ gb217)); have n8_ := Aside0.mk ((by rw [hg]; exact Nat.ne_of_lt (blk_lt (g := gb202) (o := .cells #[.slice Ao18 l0_0.length co18, .int .i64 a0_1, .bool a0_2, .bool a0_3, .int .i64 a0_4, .int .i64 a0_5] 39 (0, 0)) (by (with_reducible repeat (first | refine blk_drewN ?_ _ | refine blk_drew ?_ | refine blk_alloc ?_ _)); exact BK202.out)) : gb202 ≠ gb217)); have n9_ := Aside0.mk ((by rw [hg]; exact Nat.ne_of_gt (blk_lt (g := gb202) (o := .cells #[.slice Ao18 l0_0.length co18, .int .i64 a0_1, .bool a0_2, .bool a0_3, .int .i64 a0_4, .int .i64 a0_5] 39 (0, 0)) (by (with_reducible repeat (first | refine blk_drewN ?_ _ | refine blk_drew ?_ | refine blk_alloc ?_ _)); exact BK202.out)) : gb217 ≠ gb202)); have n10_ := Aside0.mk ((by rw [hg]; exact Nat.ne_of_lt (blk_lt (g := gb203) (o := .cells #[.slice none 0 0, .int .i64 0, .bool false, .bool false, .int .i64 0, .int .i64 0] 39 (0, 0)) (by (with_reducible repeat (first | refine blk_drewN ?_ _ | refine blk_drew ?_ | refine blk_alloc ?_ _)); exact BK203.out)) : gb203 ≠ gb217)); have n11_ := Aside0.mk ((by rw [hg]; exact Nat.ne_of_gt (blk_lt (g := gb203) (o := .cells #[.slice none 0 0, .int .i64 0, .bool false, .bool false, .int .i64 0, .int .i64 0] 39 (0, 0)) (by (with_reducible repeat (first | refine blk_drewN ?_ _ | refine blk_drew ?_ | refine blk_alloc ?_ _)); exact BK203.out)) : gb217 ≠ gb203)); clear HO209; clear BK202; clear BK203; clear HK; clear HB; have HO209 := n0_; have BK202 := n1_; have BK203 := n2_; have HK := n3_; have HB := n4_; have BK217 := n5_; have GW217 := n6_; have GE217 := n7_; have NB202_217 := n8_; have NB217_202 := n9_; have NB203_217 := n10_; have NB217_203 := n11_; clear n0_ n1_ n2_ n3_ n4_ n5_ n6_ n7_ n8_ n9_ n10_ n11_; clear hb hbox hg; obtain ⟨Ao55, co55, eo55⟩ := Kd.R_slice HO209.out; subst eo55; have hnb56 := NB217_202.out; have hnc56 := NB202_217.out; have hnb57 := NB217_203.out; have hnc57 := NB203_217.out; have hcz58_0 : w54.cell? ⟨gb217, 0, none⟩ = some (.slice none 0 0) := (blk_cell BK217.out 0).trans rfl; have hcz58_1 : w54.cell? ⟨gb217, 1, none⟩ = some (.int .i64 0) := (blk_cell BK217.out 1).trans rfl; have hcz58_2 : w54.cell? ⟨gb217, 2, none⟩ = some (.bool false) := (blk_cell BK217.out 2).trans rfl; have hcz58_3 : w54.cell? ⟨gb217, 3, none⟩ = some (.bool false) := (blk_cell BK217.out 3).trans rfl; have hcz58_4 : w54.cell? ⟨gb217, 4, none⟩ = some (.int .i64 0) := (blk_cell BK217.out 4).trans rfl; have hcz58_5 : w54.cell? ⟨gb217, 5, none⟩ = some (.int .i64 0) := (blk_cell BK217.out 5).trans rfl; have hfz58_0 := blk_frozen BK217.out 0; have hfz58_1 := blk_frozen BK217.out 1; have hfz58_2 := blk_frozen BK217.out 2; have hfz58_3 := blk_frozen BK217.out 3; have hfz58_4 := blk_frozen BK217.out 4; have hfz58_5 := blk_frozen BK217.out 5; have hcz59_0 : w54.cell? ⟨gb203, 0, none⟩ = some (.slice none 0 0) := (blk_cell BK203.out 0).trans rfl; have hcz59_1 : w54.cell? ⟨gb203, 1, none⟩ = some (.int .i64 0) := (blk_cell BK203.out 1).trans rfl; have hcz59_2 : w54.cell? ⟨gb203, 2, none⟩ = some (.bool false) := (blk_cell BK203.out 2).trans rfl; have hcz59_3 : w54.cell? ⟨gb203, 3, none⟩ = some (.bool false) := (blk_cell BK203.out 3).trans rfl; have hcz59_4 : w54.cell? ⟨gb203, 4, none⟩ = some (.int .i64 0) := (blk_cell BK203.out 4).trans rfl; have hcz59_5 : w54.cell? ⟨gb203, 5, none⟩ = some (.int .i64 0) := (blk_cell BK203.out 5).trans rfl; have hfz59_0 := blk_frozen BK203.out 0; have hfz59_1 := blk_frozen BK203.out 1; have hfz59_2 := blk_frozen BK203.out 2; have hfz59_3 := blk_frozen BK203.out 3; have hfz59_4 := blk_frozen BK203.out 4; have hfz59_5 := blk_frozen BK203.out 5))
       refine bodyPost_ret (results_ct rfl _ _ gb203 39 #[.slice Ao55 t207.length co55, .int .i64 t210, .bool t211, .bool t212, .int .i64 t213, .int .i64 t214] (0, 0) _ rfl (by (with_reducible repeat (first | refine blk_drewN ?_ _ | refine blk_drew ?_ | refine blk_alloc ?_ _)); refine blk_put (cs := #[.slice Ao55 t207.length co55, .int .i64 t210, .bool t211, .bool t212, .int .i64 t213, .int .i64 0]) ?_ 5 _ rfl; (with_reducible repeat (first | refine blk_drewN ?_ _ | refine blk_drew ?_ | refine blk_alloc ?_ _)); refine blk_put (cs := #[.slice Ao55 t207.length co55, .int .i64 t210, .bool t211, .bool t212, .int .i64 0, .int .i64 0]) ?_ 4 _ rfl; (with_reducible repeat (first | refine blk_drewN ?_ _ | refine blk_drew ?_ | refine blk_alloc ?_ _)); refine blk_put (cs := #[.slice Ao55 t207.length co55, .int .i64 t210, .bool t211, .bool false, .int .i64 0, .int .i64 0]) ?_ 3 _ rfl; (with_reducible repeat (first | refine blk_drewN ?_ _ | refine blk_drew ?_ | refine blk_alloc ?_ _)); refine blk_put (cs := #[.slice Ao55 t207.length co55, .int .i64 t210, .bool false, .bool false, .int .i64 0, .int .i64 0]) ?_ 2 _ rfl; (with_reducible repeat (first | refine blk_drewN ?_ _ | refine blk_drew ?_ | refine blk_alloc ?_ _)); refine blk_put (cs := #[.slice Ao55 t207.length co55, .int .i64 0, .bool false, .bool false, .int .i64 0, .int .i64 0]) ?_ 1 _ rfl; (with_reducible repeat (first | refine blk_drewN ?_ _ | refine blk_drew ?_ | refine blk_alloc ?_ _)); refine blk_put (cs := #[.slice none 0 0, .int .i64 0, .bool false, .bool false, .int .i64 0, .int .i64 0]) ?_ 0 _ rfl; (with_reducible repeat (first | refine blk_drewN ?_ _ | refine blk_drew ?_ | refine blk_alloc ?_ _)); refine blk_far ?_ NB203_217.out _; (with_reducible repeat (first | refine blk_drewN ?_ _ | refine blk_drew ?_ | refine blk_alloc ?_ _)); refine blk_far ?_ NB203_217.out _; (with_reducible repeat (first | refine blk_drewN ?_ _ | refine blk_drew ?_ | refine blk_alloc ?_ _)); refine blk_far ?_ NB203_217.out _; (with_reducible repeat (first | refine blk_drewN ?_ _ | refine blk_drew ?_ | refine blk_alloc ?_ _)); refine blk_far ?_ NB203_217.out _; (with_reducible repeat (first | refine blk_drewN ?_ _ | refine blk_drew ?_ | refine blk_alloc ?_ _)); refine blk_far ?_ NB203_217.out _; (with_reducible repeat (first | refine blk_drewN ?_ _ | refine blk_drew ?_ | refine blk_alloc ?_ _)); refine blk_far ?_ NB203_217.out _; (with_reducible repeat (first | refine blk_drewN ?_ _ | refine blk_drew ?_ | refine blk_alloc ?_ _)); exact BK203.out) Try.underlying39 rfl (by kernel_rfl)) rfl ?_
       exact ⟨_, by first | rfl | (simp [errW_none, errW_some] <;> rfl) | (simp [*, errW_none, errW_some] <;> rfl), by (with_reducible repeat (first | apply Kd.R_alloc | apply Kd.R_drewN | apply Kd.R_drew)); exact Kd.R_mono (Kd.R_far (p := ⟨gb203, 5, none⟩) (Kd.R_far (p := ⟨gb203, 4, none⟩) (Kd.R_far (p := ⟨gb203, 3, none⟩) (Kd.R_far (p := ⟨gb203, 2, none⟩) (Kd.R_far (p := ⟨gb203, 1, none⟩) (Kd.R_far (p := ⟨gb203, 0, none⟩) (Kd.R_far (p := ⟨gb217, 5, none⟩) (Kd.R_far (p := ⟨gb217, 4, none⟩) (Kd.R_far (p := ⟨gb217, 3, none⟩) (Kd.R_far (p := ⟨gb217, 2, none⟩) (Kd.R_far (p := ⟨gb217, 1, none⟩) (Kd.R_far (p := ⟨gb217, 0, none⟩) (Kd.R_types (Kd.R_types HO209.out BK217.out (by decide)) BK203.out (by decide)) (fun _ hk => hk.1.2) (.slice Ao55 t207.length co55)) (fun _ hk => hk.1.2) (.int .i64 t210)) (fun _ hk => hk.1.2) (.bool t211)) (fun _ hk => hk.1.2) (.bool t212)) (fun _ hk => hk.1.2) (.int .i64 t213)) (fun _ hk => hk.1.2) (.int .i64 t214)) (fun _ hk => hk.2) (.slice Ao55 t207.length co55)) (fun _ hk => hk.2) (.int .i64 t210)) (fun _ hk => hk.2) (.bool t211)) (fun _ hk => hk.2) (.bool t212)) (fun _ hk => hk.2) (.int .i64 t213)) (fun _ hk => hk.2) (.int .i64 t214)) (fun _ hk => hk.1.1), by repeat (first | (with_reducible first | exact HB.out | apply below_alloc | apply pw_below_drewN | apply below_drew1 | refine below_set ?_ GE202.out | refine below_set ?_ GE203.out | refine below_set ?_ GE217.out) | exact HB.out), by repeat (first | (with_reducible first | exact HK.out | apply Kept.alloc | apply Kept.drewN | apply Kept.drew | refine Kept.setCell ?_ (.inr GW202.out) _ | refine Kept.setCell ?_ (.inr GW203.out) _ | refine Kept.setCell ?_ (.inr GW217.out) _) | exact HK.out)⟩
 ·replace c5 := Bool.eq_false_iff.mpr c5
  subst c5
  have H1 : (some (l0_0, a0_1, a0_2, a0_3, a0_4, a0_5, 2)) = some (r1, r2, r3, r4, r5, r6, r7) := by rw [if_neg (show ¬ (false = true) by decide)] at H; exact H
  clear H
  have H := H1
  clear H1
  simp only [Option.some.injEq, Prod.mk.injEq] at H
  obtain ⟨rfl, rfl, rfl, rfl, rfl, rfl, rfl⟩ := H
  obtain ⟨Ao60, co60, eo60⟩ := Kd.R_slice HO0_0.out
  subst eo60
  go_enter Try.func36, Try.ntmps36
  go_wp2_with (first | ((with_reducible refine gate_dst (N := 3) rfl ?_); (try (refine gate_guard (by rfl) ?_; dsimp only)); refine box_event ?hg (N := 3) ?hd (cs := #[.slice Ao60 l0_0.length co60, .int .i64 a0_1, .bool a0_2, .bool a0_3, .int .i64 a0_4, .int .i64 a0_5]) (t := 39) ?hr ?_; (case hd => rfl); (case hg => rfl); (case hr => first | (go_simp; done) | (go_simp; rfl)); intro gb202 hg w61 hbox hb; have n0_ := Aside0.mk (Kd.R_below (by (with_reducible repeat (first | apply Kd.R_alloc | apply Kd.R_drewN | apply Kd.R_drew)); exact HO0_0.out) hb); have n1_ := Aside0.mk (Kept.below (S := (fun k_ => P0_0_ k_)) (by repeat (first | (with_reducible first | exact HK.out | apply Kept.alloc | apply Kept.drewN | apply Kept.drew) | exact HK.out)) hb); have n2_ := Aside0.mk (below_step (by repeat (first | (with_reducible first | exact HB.out | apply below_alloc | apply pw_below_drewN | apply below_drew1) | exact HB.out)) hb); have n3_ := Aside0.mk (hbox); have n4_ := Aside0.mk ((by rw [hg]; exact (by first | exact HK.out.1 | exact (show Kept w _ (fun k_ => P0_0_ k_) from by repeat (first | (with_reducible first | exact HK.out | apply Kept.alloc | apply Kept.drewN | apply Kept.drew) | exact HK.out)).1) : w.heap.size ≤ gb202)); have n5_ := Aside0.mk ((by rw [hg]; exact (below_size (by repeat (first | (with_reducible first | exact HB.out | apply below_alloc | apply pw_below_drewN | apply below_drew1) | exact HB.out))) : w0.heap.size ≤ gb202)); clear HO0_0; clear HK; clear HB; have HO0_0 := n0_; have HK := n1_; have HB := n2_; have BK202 := n3_; have GW202 := n4_; have GE202 := n5_; clear n0_ n1_ n2_ n3_ n4_ n5_; clear hb hbox hg) | ((with_reducible refine gate_dst (N := 6) rfl ?_); (try (refine gate_guard (by rfl) ?_; dsimp only)); refine box_event ?hg (N := 6) ?hd (cs := #[.slice none 0 0, .int .i64 0, .bool false, .bool false, .int .i64 0, .int .i64 0]) (t := 39) ?hr ?_; (case hd => rfl); (case hg => rfl); (case hr => first | (go_simp; done) | (go_simp; rfl)); intro gb203 hg w62 hbox hb; have n0_ := Aside0.mk (Kd.R_below (by (with_reducible repeat (first | apply Kd.R_alloc | apply Kd.R_drewN | apply Kd.R_drew)); exact HO0_0.out) hb); have n1_ := Aside0.mk (blk_below (g := gb202) (o := .cells #[.slice Ao60 l0_0.length co60, .int .i64 a0_1, .bool a0_2, .bool a0_3, .int .i64 a0_4, .int .i64 a0_5] 39 (0, 0)) (by (with_reducible repeat (first | refine blk_drewN ?_ _ | refine blk_drew ?_ | refine blk_alloc ?_ _)); exact BK202.out) hb); have n2_ := Aside0.mk (Kept.below (S := (fun k_ => P0_0_ k_)) (by repeat (first | (with_reducible first | exact HK.out | apply Kept.alloc | apply Kept.drewN | apply Kept.drew | refine Kept.setCell ?_ (.inr GW202.out) _) | exact HK.out)) hb); have n3_ := Aside0.mk (below_step (by repeat (first | (with_reducible first | exact HB.out | apply below_alloc | apply pw_below_drewN | apply below_drew1 | refine below_set ?_ GE202.out) | exact HB.out)) hb); have n4_ := Aside0.mk (hbox); have n5_ := Aside0.mk ((by rw [hg]; exact (by first | exact HK.out.1 | exact (show Kept w _ (fun k_ => P0_0_ k_) from by repeat (first | (with_reducible first | exact HK.out | apply Kept.alloc | apply Kept.drewN | apply Kept.drew | refine Kept.setCell ?_ (.inr GW202.out) _) | exact HK.out)).1) : w.heap.size ≤ gb203)); have n6_ := Aside0.mk ((by rw [hg]; exact (below_size (by repeat (first | (with_reducible first | exact HB.out | apply below_alloc | apply pw_below_drewN | apply below_drew1 | refine below_set ?_ GE202.out) | exact HB.out))) : w0.heap.size ≤ gb203)); have n7_ := Aside0.mk ((by rw [hg]; exact Nat.ne_of_lt (blk_lt (g := gb202) (o := .cells #[.slice Ao60 l0_0.length co60, .int .i64 a0_1, .bool a0_2, .bool a0_3, .int .i64 a0_4, .int .i64 a0_5] 39 (0, 0)) (by (with_reducible repeat (first | refine blk_drewN ?_ _ | refine blk_drew ?_ | refine blk_alloc ?_ _)); exact BK202.out)) : gb202 ≠ gb203)); have n8_ := Aside0.mk ((by rw [hg]; exact Nat.ne_of_gt (blk_lt (g := gb202) (o := .cells #[.slice Ao60 l0_0.length co60, .int .i64 a0_1, .bool a0_2, .bool a0_3, .int .i64 a0_4, .int .i64 a0_5] 39 (0, 0)) (by (with_reducible repeat (first | refine blk_drewN ?_ _ | refine blk_drew ?_ | refine blk_alloc ?_ _)); exact BK202.out)) : gb203 ≠ gb202)); clear HO0_0; clear BK202; clear HK; clear HB; have HO0_0 := n0_; have BK202 := n1_; have HK := n2_; have HB := n3_; have BK203 := n4_; have GW203 := n5_; have GE203 := n6_; have NB202_203 := n7_; have NB203_202 := n8_; clear n0_ n1_ n2_ n3_ n4_ n5_ n6_ n7_ n8_; clear hb hbox hg) | ((with_reducible refine gate_callee (f := 55) rfl ?_); refine goesL_ (some 13) rfl rfl Try.func55 (by kernel_rfl) rfl #[.string a1] rfl (by (try simp only [List.map_toArray, List.map_cons, List.map_nil]); first | done | rfl | (simp only [List.length_drop, List.length_take]; rfl)) ?_; (with_reducible refine (forebearref03_Name.calls k a1 false _ A4.out).mono ?_); rintro e w' ⟨rfl, ⟨nd, rfl⟩⟩; refine ⟨_, rfl, ?_⟩; (try (rw [drewN_self w62]; generalize hq_ : World.drewN w62 _ = w62; have n0_ : Aside0 (Kd.R k76 76 w62 w0.heap.size (fun k_ => (P0_0_ k_ ∨ w.heap.size ≤ k_)) (.slice Ao60 l0_0.length co60) l0_0) := ⟨by rw [← hq_]; exact (by (with_reducible repeat (first | apply Kd.R_alloc | apply Kd.R_drewN | apply Kd.R_drew)); exact HO0_0.out)⟩; have n1_ : Aside0 (w62.heap[gb202]? = some (.cells #[.slice Ao60 l0_0.length co60, .int .i64 a0_1, .bool a0_2, .bool a0_3, .int .i64 a0_4, .int .i64 a0_5] 39 (0, 0))) := ⟨by rw [← hq_]; exact (by (with_reducible repeat (first | refine blk_drewN ?_ _ | refine blk_drew ?_ | refine blk_alloc ?_ _)); exact BK202.out)⟩; have n2_ : Aside0 (w62.heap[gb203]? = some (.cells #[.slice none 0 0, .int .i64 0, .bool false, .bool false, .int .i64 0, .int .i64 0] 39 (0, 0))) := ⟨by rw [← hq_]; exact (by (with_reducible repeat (first | refine blk_drewN ?_ _ | refine blk_drew ?_ | refine blk_alloc ?_ _)); exact BK203.out)⟩; have n3_ : Aside0 (Kept w w62 (fun k_ => P0_0_ k_)) := ⟨by rw [← hq_]; exact (by repeat (first | (with_reducible first | exact HK.out | apply Kept.alloc | apply Kept.drewN | apply Kept.drew | refine Kept.setCell ?_ (.inr GW202.out) _ | refine Kept.setCell ?_ (.inr GW203.out) _) | exact HK.out))⟩; have n4_ : Aside0 (Below w0.heap.size w0 w62) := ⟨by rw [← hq_]; exact (by repeat (first | (with_reducible first | exact HB.out | apply below_alloc | apply pw_below_drewN | apply below_drew1 | refine below_set ?_ GE202.out | refine below_set ?_ GE203.out) | exact HB.out))⟩; clear HO0_0 BK202 BK203 HK HB hq_; have HO0_0 := n0_; have BK202 := n1_; have BK203 := n2_; have HK := n3_; have HB := n4_; clear n0_ n1_ n2_ n3_ n4_)); have hnb63 := NB202_203.out; have hnc63 := NB203_202.out; have hcz64_0 : w62.cell? ⟨gb202, 0, none⟩ = some (.slice Ao60 l0_0.length co60) := (blk_cell BK202.out 0).trans rfl; have hcz64_1 : w62.cell? ⟨gb202, 1, none⟩ = some (.int .i64 a0_1) := (blk_cell BK202.out 1).trans rfl; have hcz64_2 : w62.cell? ⟨gb202, 2, none⟩ = some (.bool a0_2) := (blk_cell BK202.out 2).trans rfl; have hcz64_3 : w62.cell? ⟨gb202, 3, none⟩ = some (.bool a0_3) := (blk_cell BK202.out 3).trans rfl; have hcz64_4 : w62.cell? ⟨gb202, 4, none⟩ = some (.int .i64 a0_4) := (blk_cell BK202.out 4).trans rfl; have hcz64_5 : w62.cell? ⟨gb202, 5, none⟩ = some (.int .i64 a0_5) := (blk_cell BK202.out 5).trans rfl; have hfz64_0 := blk_frozen BK202.out 0; have hfz64_1 := blk_frozen BK202.out 1; have hfz64_2 := blk_frozen BK202.out 2; have hfz64_3 := blk_frozen BK202.out 3; have hfz64_4 := blk_frozen BK202.out 4; have hfz64_5 := blk_frozen BK202.out 5; have hcz65_0 : w62.cell? ⟨gb203, 0, none⟩ = some (.slice none 0 0) := (blk_cell BK203.out 0).trans rfl; have hcz65_1 : w62.cell? ⟨gb203, 1, none⟩ = some (.int .i64 0) := (blk_cell BK203.out 1).trans rfl; have hcz65_2 : w62.cell? ⟨gb203, 2, none⟩ = some (.bool false) := (blk_cell BK203.out 2).trans rfl; have hcz65_3 : w62.cell? ⟨gb203, 3, none⟩ = some (.bool false) := (blk_cell BK203.out 3).trans rfl; have hcz65_4 : w62.cell? ⟨gb203, 4, none⟩ = some (.int .i64 0) := (blk_cell BK203.out 4).trans rfl; have hcz65_5 : w62.cell? ⟨gb203, 5, none⟩ = some (.int .i64 0) := (blk_cell BK203.out 5).trans rfl; have hfz65_0 := blk_frozen BK203.out 0; have hfz65_1 := blk_frozen BK203.out 1; have hfz65_2 := blk_frozen BK203.out 2; have hfz65_3 := blk_frozen BK203.out 3; have hfz65_4 := blk_frozen BK203.out 4; have hfz65_5 := blk_frozen BK203.out 5))
  refine bodyPost_ret (results_ct rfl _ _ gb203 39 #[.slice Ao60 l0_0.length co60, .int .i64 a0_1, .bool a0_2, .bool a0_3, .int .i64 a0_4, .int .i64 a0_5] (0, 0) _ rfl (by (with_reducible repeat (first | refine blk_drewN ?_ _ | refine blk_drew ?_ | refine blk_alloc ?_ _)); refine blk_put (cs := #[.slice Ao60 l0_0.length co60, .int .i64 a0_1, .bool a0_2, .bool a0_3, .int .i64 a0_4, .int .i64 0]) ?_ 5 _ rfl; (with_reducible repeat (first | refine blk_drewN ?_ _ | refine blk_drew ?_ | refine blk_alloc ?_ _)); refine blk_put (cs := #[.slice Ao60 l0_0.length co60, .int .i64 a0_1, .bool a0_2, .bool a0_3, .int .i64 0, .int .i64 0]) ?_ 4 _ rfl; (with_reducible repeat (first | refine blk_drewN ?_ _ | refine blk_drew ?_ | refine blk_alloc ?_ _)); refine blk_put (cs := #[.slice Ao60 l0_0.length co60, .int .i64 a0_1, .bool a0_2, .bool false, .int .i64 0, .int .i64 0]) ?_ 3 _ rfl; (with_reducible repeat (first | refine blk_drewN ?_ _ | refine blk_drew ?_ | refine blk_alloc ?_ _)); refine blk_put (cs := #[.slice Ao60 l0_0.length co60, .int .i64 a0_1, .bool false, .bool false, .int .i64 0, .int .i64 0]) ?_ 2 _ rfl; (with_reducible repeat (first | refine blk_drewN ?_ _ | refine blk_drew ?_ | refine blk_alloc ?_ _)); refine blk_put (cs := #[.slice Ao60 l0_0.length co60, .int .i64 0, .bool false, .bool false, .int .i64 0, .int .i64 0]) ?_ 1 _ rfl; (with_reducible repeat (first | refine blk_drewN ?_ _ | refine blk_drew ?_ | refine blk_alloc ?_ _)); refine blk_put (cs := #[.slice none 0 0, .int .i64 0, .bool false, .bool false, .int .i64 0, .int .i64 0]) ?_ 0 _ rfl; (with_reducible repeat (first | refine blk_drewN ?_ _ | refine blk_drew ?_ | refine blk_alloc ?_ _)); exact BK203.out) Try.underlying39 rfl (by kernel_rfl)) rfl ?_
  exact ⟨_, by first | rfl | (simp [errW_none, errW_some] <;> rfl) | (simp [*, errW_none, errW_some] <;> rfl), by (with_reducible repeat (first | apply Kd.R_alloc | apply Kd.R_drewN | apply Kd.R_drew)); exact Kd.R_mono (Kd.R_far (p := ⟨gb203, 5, none⟩) (Kd.R_far (p := ⟨gb203, 4, none⟩) (Kd.R_far (p := ⟨gb203, 3, none⟩) (Kd.R_far (p := ⟨gb203, 2, none⟩) (Kd.R_far (p := ⟨gb203, 1, none⟩) (Kd.R_far (p := ⟨gb203, 0, none⟩) (Kd.R_types HO0_0.out BK203.out (by decide)) (fun _ hk => hk.2) (.slice Ao60 l0_0.length co60)) (fun _ hk => hk.2) (.int .i64 a0_1)) (fun _ hk => hk.2) (.bool a0_2)) (fun _ hk => hk.2) (.bool a0_3)) (fun _ hk => hk.2) (.int .i64 a0_4)) (fun _ hk => hk.2) (.int .i64 a0_5)) (fun _ hk => hk.1), by repeat (first | (with_reducible first | exact HB.out | apply below_alloc | apply pw_below_drewN | apply below_drew1 | refine below_set ?_ GE202.out | refine below_set ?_ GE203.out) | exact HB.out), by repeat (first | (with_reducible first | exact HK.out | apply Kept.alloc | apply Kept.drewN | apply Kept.drew | refine Kept.setCell ?_ (.inr GW202.out) _ | refine Kept.setCell ?_ (.inr GW203.out) _) | exact HK.out)⟩

end Go.Proofs.Ytieodkghfceflaa.MD
