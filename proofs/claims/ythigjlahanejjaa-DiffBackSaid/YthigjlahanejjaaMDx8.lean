/- Laid by this claim's own program (myprint) out of the translation: functions that the laws of the group D reach, each as a plain function, with the proof that the Go code comes to it. No condition. -/
import Derived.Test.YthigjlahanejjaaMDx0
import Derived.Test.YthigjlahanejjaaMDx7
namespace Go.Proofs.Ythigjlahanejjaa.MD
open Go.Proofs.Ythigjlahanejjaa.Opening
open Go.RowKit Go.Proofs.YthigjlahanejjaaW.PrintWords Go.Proofs.YthigjlahanejjaaW.PrintLast Go.Proofs.YthigjlahanejjaaW.PrintMore
attribute [local go_sem] max2_int min2_int max_two min_two max_three min_three max_four min_four   -- for this text's walks alone
set_option linter.unusedVariables false
set_option linter.unusedSimpArgs false

/-! ### forebearref05_Hunks: function 16 -/
mutual
def forebearref05_Hunks.l0 : Nat → List ByteArray → List ByteArray → List (S40) → List (S47) → Int → Option ((List (S47)) × Int)
 | 0, _, _, _, _, _ => none
 | k + 1, x0, x1, x6, x8, x9 => if x9 ≤ (x6.length : Int) then (if x9 > 0 then (if 0 ≤ (wrap64 (x9 - 1)) then (if (wrap64 (x9 - 1)) < (x6.length : Int) then (forebearref05_Hunks.j1 k x0 x1 x6 x8 x9 (wrap64 (((rd_T40 x6 (wrap64 (x9 - 1))).f0) + 1)) (wrap64 (((rd_T40 x6 (wrap64 (x9 - 1))).f1) + 1)) (x0.length : Int) (x1.length : Int)) else (none)) else (none)) else (forebearref05_Hunks.j1 k x0 x1 x6 x8 x9 0 0 (x0.length : Int) (x1.length : Int))) else (some (x8, 0))
def forebearref05_Hunks.j1 : Nat → List ByteArray → List ByteArray → List (S40) → List (S47) → Int → Int → Int → Int → Int → Option ((List (S47)) × Int)
 | 0, _, _, _, _, _, _, _, _, _ => none
 | k + 1, x0, x1, x6, x8, x9, x219000, x219001, x220000, x220001 => if x9 < (x6.length : Int) then (if 0 ≤ x9 then (if x219000 < ((rd_T40 x6 x9).f0) then (if 0 ≤ x219000 then (if x219000 ≤ ((rd_T40 x6 x9).f0) then (if ((rd_T40 x6 x9).f0) ≤ (x0.length : Int) then (if 0 ≤ x219001 then (if x219001 ≤ ((rd_T40 x6 x9).f1) then (if ((rd_T40 x6 x9).f1) ≤ (x1.length : Int) then (if x8.length < 2199023255552 then (forebearref05_Hunks.l0 k x0 x1 x6 (x8 ++ [(⟨x219000, x219001, ((x0.take (((rd_T40 x6 x9).f0) : Int).toNat).drop (x219000 : Int).toNat), ((x1.take (((rd_T40 x6 x9).f1) : Int).toNat).drop (x219001 : Int).toNat)⟩ : S47)]) (wrap64 (x9 + 1))) else (none)) else (none)) else (none)) else (none)) else (none)) else (none)) else (none)) else (if x219001 < ((rd_T40 x6 x9).f1) then (if 0 ≤ x219000 then (if x219000 ≤ ((rd_T40 x6 x9).f0) then (if ((rd_T40 x6 x9).f0) ≤ (x0.length : Int) then (if 0 ≤ x219001 then (if x219001 ≤ ((rd_T40 x6 x9).f1) then (if ((rd_T40 x6 x9).f1) ≤ (x1.length : Int) then (if x8.length < 2199023255552 then (forebearref05_Hunks.l0 k x0 x1 x6 (x8 ++ [(⟨x219000, x219001, ((x0.take (((rd_T40 x6 x9).f0) : Int).toNat).drop (x219000 : Int).toNat), ((x1.take (((rd_T40 x6 x9).f1) : Int).toNat).drop (x219001 : Int).toNat)⟩ : S47)]) (wrap64 (x9 + 1))) else (none)) else (none)) else (none)) else (none)) else (none)) else (none)) else (none)) else (forebearref05_Hunks.l0 k x0 x1 x6 x8 (wrap64 (x9 + 1))))) else (none)) else (if x219000 < x220000 then (if 0 ≤ x219000 then (if x219000 ≤ x220000 then (if x220000 ≤ (x0.length : Int) then (if 0 ≤ x219001 then (if x219001 ≤ x220001 then (if x220001 ≤ (x1.length : Int) then (if x8.length < 2199023255552 then (forebearref05_Hunks.l0 k x0 x1 x6 (x8 ++ [(⟨x219000, x219001, ((x0.take (x220000 : Int).toNat).drop (x219000 : Int).toNat), ((x1.take (x220001 : Int).toNat).drop (x219001 : Int).toNat)⟩ : S47)]) (wrap64 (x9 + 1))) else (none)) else (none)) else (none)) else (none)) else (none)) else (none)) else (none)) else (if x219001 < x220001 then (if 0 ≤ x219000 then (if x219000 ≤ x220000 then (if x220000 ≤ (x0.length : Int) then (if 0 ≤ x219001 then (if x219001 ≤ x220001 then (if x220001 ≤ (x1.length : Int) then (if x8.length < 2199023255552 then (forebearref05_Hunks.l0 k x0 x1 x6 (x8 ++ [(⟨x219000, x219001, ((x0.take (x220000 : Int).toNat).drop (x219000 : Int).toNat), ((x1.take (x220001 : Int).toNat).drop (x219001 : Int).toNat)⟩ : S47)]) (wrap64 (x9 + 1))) else (none)) else (none)) else (none)) else (none)) else (none)) else (none)) else (none)) else (forebearref05_Hunks.l0 k x0 x1 x6 x8 (wrap64 (x9 + 1)))))
end
def forebearref05_Hunks.f (k : Nat) (l0 : List ByteArray) (l1 : List ByteArray) : Option ((List (S47)) × Int) := (forebearref05_Match.f k l0 l1).bind fun bt214 => (if bt214.2 = 0 then (forebearref05_Hunks.l0 k l0 l1 bt214.1 ([] : List (S47)) 0) else (some (([] : List (S47)), bt214.2)))
theorem forebearref05_Hunks.mono_l : ∀ k, (∀ y0 y1 y2 y3 y4, LeO (forebearref05_Hunks.l0 k y0 y1 y2 y3 y4) (forebearref05_Hunks.l0 (k + 1) y0 y1 y2 y3 y4)) ∧ (∀ y0 y1 y2 y3 y4 y5 y6 y7 y8, LeO (forebearref05_Hunks.j1 k y0 y1 y2 y3 y4 y5 y6 y7 y8) (forebearref05_Hunks.j1 (k + 1) y0 y1 y2 y3 y4 y5 y6 y7 y8))
 | 0 => ⟨fun _ _ _ _ _ r h => by simp [forebearref05_Hunks.l0] at h, fun _ _ _ _ _ _ _ _ _ r h => by simp [forebearref05_Hunks.j1] at h⟩
 | k + 1 => by
  obtain ⟨ih0, ih1⟩ := forebearref05_Hunks.mono_l k
  refine ⟨?_, ?_⟩
  ·intro y0 y1 y2 y3 y4
   unfold forebearref05_Hunks.l0
   repeat' first
   | (with_reducible exact ih0 _ _ _ _ _)
   | (with_reducible exact ih1 _ _ _ _ _ _ _ _ _)
   | (with_reducible exact forebearref05_Match.mono _ _ _)
   | (with_reducible exact LeO.refl _)
   | (with_reducible exact LeO.none _)
   | (with_reducible refine LeO.ite ?_ ?_)
   | (with_reducible refine LeO.bind ?_ (fun _ => ?_))
   | exact ih0 _ _ _ _ _
   | exact ih1 _ _ _ _ _ _ _ _ _
   | exact forebearref05_Match.mono _ _ _
   | exact LeO.none _
   | refine LeO.ite ?_ ?_
   | refine LeO.bind ?_ (fun _ => ?_)
  ·intro y0 y1 y2 y3 y4 y5 y6 y7 y8
   unfold forebearref05_Hunks.j1
   repeat' first
   | (with_reducible exact ih0 _ _ _ _ _)
   | (with_reducible exact ih1 _ _ _ _ _ _ _ _ _)
   | (with_reducible exact forebearref05_Match.mono _ _ _)
   | (with_reducible exact LeO.refl _)
   | (with_reducible exact LeO.none _)
   | (with_reducible refine LeO.ite ?_ ?_)
   | (with_reducible refine LeO.bind ?_ (fun _ => ?_))
   | exact ih0 _ _ _ _ _
   | exact ih1 _ _ _ _ _ _ _ _ _
   | exact forebearref05_Match.mono _ _ _
   | exact LeO.none _
   | refine LeO.ite ?_ ?_
   | refine LeO.bind ?_ (fun _ => ?_)
theorem forebearref05_Hunks.mono : ∀ a0 a1 k, LeO (forebearref05_Hunks.f k a0 a1) (forebearref05_Hunks.f (k + 1) a0 a1) := by
 intro a0 a1 k
 obtain ⟨ih0, ih1⟩ := forebearref05_Hunks.mono_l k
 unfold forebearref05_Hunks.f
 repeat' first
   | (with_reducible exact ih0 _ _ _ _ _)
   | (with_reducible exact ih1 _ _ _ _ _ _ _ _ _)
   | (with_reducible exact forebearref05_Match.mono _ _ _)
   | (with_reducible exact LeO.refl _)
   | (with_reducible exact LeO.none _)
   | (with_reducible refine LeO.ite ?_ ?_)
   | (with_reducible refine LeO.bind ?_ (fun _ => ?_))
   | exact ih0 _ _ _ _ _
   | exact ih1 _ _ _ _ _ _ _ _ _
   | exact forebearref05_Match.mono _ _ _
   | exact LeO.none _
   | refine LeO.ite ?_ ?_
   | refine LeO.bind ?_ (fun _ => ?_)
def forebearref05_Hunks.T11 : Bool × List (List Nat × List Nat) := (true, [([], []), ([], []), ([1], [1]), ([0, 2], [0, 2]), ([3], [3]), ([4], [4]), ([5], [5]), ([], []), ([], []), ([8], [8]), ([7, 9], [7, 9]), ([10], [10]), ([11], [11]), ([12], [12]), ([6, 13], [6, 13]), ([14, 0, 1, 2, 3, 4, 5, 6, 7, 8, 9, 10, 11, 12, 13, 14], [14])])
def forebearref05_Hunks.B11 : List Nat := [0, 0, 2, 7, 15, 31, 63, 0, 0, 256, 896, 1920, 3968, 8064, 16383, 32767]
theorem forebearref05_Hunks.tab11 : rtab .any (opsOf Try.f16 11) = forebearref05_Hunks.T11 := by kernel_rfl
theorem forebearref05_Hunks.bits11 : waitsOk forebearref05_Hunks.T11.2 forebearref05_Hunks.B11 = true := by kernel_rfl
def forebearref05_Hunks.T15 : Bool × List (List Nat × List Nat) := (true, [([], []), ([], []), ([1], [1]), ([], []), ([3], [3]), ([], []), ([], []), ([6], [6]), ([], []), ([8], [8]), ([5, 7, 9], [5, 7, 9]), ([], []), ([], []), ([12], [12]), ([], []), ([14], [14]), ([11, 13, 15], [11, 13, 15]), ([2, 4, 10, 16], [2, 4, 10, 16]), ([17], [17]), ([0, 18], [0, 18]), ([19, 19, 0, 1, 2, 3, 4, 5, 6, 7, 8, 9, 10, 11, 12, 13, 14, 15, 16, 17, 18, 19], [0, 19])])
def forebearref05_Hunks.B15 : List Nat := [0, 0, 2, 0, 8, 0, 0, 64, 0, 256, 992, 0, 0, 4096, 0, 16384, 63488, 131070, 262142, 524287, 1048575]
theorem forebearref05_Hunks.tab15 : rtab .any (opsOf Try.f16 15) = forebearref05_Hunks.T15 := by kernel_rfl
theorem forebearref05_Hunks.bits15 : waitsOk forebearref05_Hunks.T15.2 forebearref05_Hunks.B15 = true := by kernel_rfl
set_option maxHeartbeats 8000000 in
set_option maxRecDepth 100000 in
theorem forebearref05_Hunks.calls (k : Nat) (P0_ : Nat → Prop) (A0 : Option Addr) (c0 : Nat) (l0 : List ByteArray) (P1_ : Nat → Prop) (A1 : Option Addr) (c1 : Nat) (l1 : List ByteArray) (r1 : List (S47)) (r2 : Int) (w : World) (hs0 : Kd.V Kd.string 9 w w.heap.size (fun k_ => P0_ k_) (.slice A0 l0.length c0) l0) (hs1 : Kd.V Kd.string 9 w w.heap.size (fun k_ => P1_ k_) (.slice A1 l1.length c1) l1) (h : forebearref05_Hunks.f k l0 l1 = some (r1, r2)) :
  Calls Try.prog 16 #[.slice A0 l0.length c0, .slice A1 l1.length c1] w fun e w' => ∃ v0_ : Value, e = .returned (.tuple #[v0_, .int .i64 r2]) ∧ Kd.N k47 47 w' w.heap.size (fun k_ => ((P0_ k_ ∨ P1_ k_) ∨ w.heap.size ≤ k_)) v0_ r1 ∧ Below w.heap.size w w' := by
 have hu40 := Try.underlying40
 have hu47 := Try.underlying47
 have HO0 := Aside0.mk (show Kd.V Kd.string 9 w w.heap.size (fun k_ => ((P0_ k_ ∨ P1_ k_) ∨ w.heap.size ≤ k_)) (.slice A0 l0.length c0) l0 from Kd.V_mono hs0 (fun k_ hk => .inl (.inl hk)))
 have HO1 := Aside0.mk (show Kd.V Kd.string 9 w w.heap.size (fun k_ => ((P0_ k_ ∨ P1_ k_) ∨ w.heap.size ≤ k_)) (.slice A1 l1.length c1) l1 from Kd.V_mono hs1 (fun k_ hk => .inl (.inr hk)))
 have HB := Aside0.mk (Below.refl w.heap.size w)
 have H : ((forebearref05_Match.f k l0 l1).bind fun bt214 => (if bt214.2 = 0 then (forebearref05_Hunks.l0 k l0 l1 bt214.1 ([] : List (S47)) 0) else (some (([] : List (S47)), bt214.2)))) = some (r1, r2) := h
 clear h
 replace H := Option.bind_eq_some_iff.mp H
 obtain ⟨⟨t214, t215⟩, A30, H⟩ := H
 replace H : (if t215 = 0 then (forebearref05_Hunks.l0 k l0 l1 t214 ([] : List (S47)) 0) else (some (([] : List (S47)), t215))) = some (r1, r2) := H
 have A3 := Aside0.mk A30
 clear A30
 by_cases c4 : t215 = 0
 ·rw [if_pos c4] at H
  have c4b0 : (t215 == 0) = true := beq_iff_eq.mpr c4
  have c4b1 : (t215 != 0) = false := bne_eq_false_iff_eq.mpr c4
  clear c4
  have H' := Aside0.mk H
  clear H
  go_enter Try.func16, Try.ntmps16
  go_wp2_with (first | ((with_reducible refine gate_callee (f := 14) rfl ?_); refine goesL_ (some 15) rfl rfl Try.func14 (by kernel_rfl) rfl #[.slice A0 l0.length c0, .slice A1 l1.length c1] rfl (by (try simp only [List.map_toArray, List.map_cons, List.map_nil]); first | done | rfl | (simp only [List.length_drop, List.length_take]; rfl)) ?_; (with_reducible refine (forebearref05_Match.calls k _ _ l0 _ _ l1 t214 t215 _ ?side1 ?side2 ?side3 ?side4 A3.out).mono ?_); (case side1 => repeat (first | exact (Kd.V_reads' HO0.out).2.2 | (with_reducible refine Kd.C_alloc ?_ _) | (with_reducible refine Kd.C_drewN ?_ _) | (with_reducible refine Kd.C_drew ?_))); (case side2 => exact (Kd.V_reads' HO0.out).2.1); (case side3 => repeat (first | exact (Kd.V_reads' HO1.out).2.2 | (with_reducible refine Kd.C_alloc ?_ _) | (with_reducible refine Kd.C_drewN ?_ _) | (with_reducible refine Kd.C_drew ?_))); (case side4 => exact (Kd.V_reads' HO1.out).2.1); rintro e w5 ⟨v216, rfl, ho0, hb⟩; refine ⟨_, rfl, ?_⟩; have n0_ := Aside0.mk (Kd.V_elder' (by (with_reducible repeat (first | apply Kd.V_alloc | apply Kd.V_drewN | apply Kd.V_drew)); exact HO0.out) (Kd.R_base ho0) hb); have n1_ := Aside0.mk (Kd.V_elder' (by (with_reducible repeat (first | apply Kd.V_alloc | apply Kd.V_drewN | apply Kd.V_drew)); exact HO1.out) (Kd.R_base ho0) hb); have n2_ := Aside0.mk (Kd.R_lower (Kd.R_newM (M := fun k_ => (w.heap.size ≤ k_)) ho0 (below_size (by repeat (first | (with_reducible first | exact HB.out | apply below_alloc | apply pw_below_drewN | apply below_drew1) | exact HB.out))) (fun k_ h_ => h_)) (below_size (by repeat (first | (with_reducible first | exact HB.out | apply below_alloc | apply pw_below_drewN | apply below_drew1) | exact HB.out)))); have n3_ := Aside0.mk (below_step (by repeat (first | (with_reducible first | exact HB.out | apply below_alloc | apply pw_below_drewN | apply below_drew1) | exact HB.out)) hb); clear HO0; clear HO1; clear HB; have HO0 := n0_; have HO1 := n1_; have HO217 := n2_; have HB := n3_; clear n0_ n1_ n2_ n3_; (try clear hb); (try clear hb2); (try clear hk); (try clear hi); (try clear ho0)))
  go_loopg [8, 9] k (fun kq v8 v9 w' => ∃ (x8_1 : List (S47)) (x9_1 : Int), v9 = .int .i64 x9_1 ∧ Aside0 (forebearref05_Hunks.l0 kq l0 l1 t214 x8_1 x9_1 = some (r1, r2)) ∧ Aside0 (kq ≤ k) ∧ Aside0 (Kd.V Kd.string 9 w' w.heap.size (fun k_ => ((P0_ k_ ∨ P1_ k_) ∨ w.heap.size ≤ k_) ∧ some k_ ≠ (v216 : Value).ownBlock ∧ some k_ ≠ (v8 : Value).ownBlock) (.slice A0 l0.length c0) l0) ∧ Aside0 (Kd.V Kd.string 9 w' w.heap.size (fun k_ => ((P0_ k_ ∨ P1_ k_) ∨ w.heap.size ≤ k_) ∧ some k_ ≠ (v216 : Value).ownBlock ∧ some k_ ≠ (v8 : Value).ownBlock) (.slice A1 l1.length c1) l1) ∧ Aside0 (Kd.R k40 40 w' w.heap.size (fun k_ => (w.heap.size ≤ k_)) v216 t214) ∧ Aside0 (Kd.N k47 47 w' w.heap.size (fun k_ => ((P0_ k_ ∨ P1_ k_) ∨ w.heap.size ≤ k_) ∧ some k_ ≠ (v216 : Value).ownBlock) v8 x8_1) ∧ Aside0 (Below w.heap.size w w'))
  case atStart => exact ⟨(([] : List (S47))), (0), (by first | rfl | (simp; done) | (simp [*]; done)), H', ⟨Nat.le_refl _⟩, ⟨by (with_reducible repeat (first | apply Kd.V_alloc | apply Kd.V_drewN | apply Kd.V_drew)); exact Kd.V_mono HO0.out (fun _ hk => ⟨hk.1, ⟨hk.2, (by simp [Value.ownBlock])⟩⟩)⟩, ⟨by (with_reducible repeat (first | apply Kd.V_alloc | apply Kd.V_drewN | apply Kd.V_drew)); exact Kd.V_mono HO1.out (fun _ hk => ⟨hk.1, ⟨hk.2, (by simp [Value.ownBlock])⟩⟩)⟩, ⟨by (with_reducible repeat (first | apply Kd.R_alloc | apply Kd.R_drewN | apply Kd.R_drew)); exact Kd.R_mono HO217.out (fun _ hk => hk.1)⟩, ⟨by first | exact Kd.S_nil _ _ _ _ _ | exact Kd.N_nil _ _ _ _ _ | exact Kd.V_nil _ _ _ _ _ | exact Kd.Q_nil _ _ _ _ _ | exact Kd.R_nil _ _ _ _ _⟩, ⟨by repeat (first | (with_reducible first | exact HB.out | apply below_alloc | apply pw_below_drewN | apply below_drew1) | exact HB.out)⟩⟩
  case round =>
   clear H'
   try clear c1
   try clear p2
   try clear c4
   try clear c4b0
   try clear c4b1
   obtain ⟨x8_1, x9_1, rfl, HA, HK1, HO_0, HO_1, HO_6, HO_8, HB⟩ := hrel
   cases gk with
   | zero => exact absurd HA.out (by simp [forebearref05_Hunks.l0])
   | succ k1 =>
    have H := HA.out
    clear HA
    simp only [forebearref05_Hunks.l0] at H
    by_cases c6 : x9_1 ≤ (t214.length : Int)
    ·rw [if_pos c6] at H
     have c6b0 : decide (x9_1 ≤ (t214.length : Int)) = true := decide_eq_true c6
     clear c6
     have HC7 := Aside0.mk H
     clear H
     obtain ⟨Ao8, co8, eo8⟩ := Kd.R_slice HO_6.out
     subst eo8
     go_upto_if 34 with (first | ((with_reducible refine gate_dst (N := 10) rfl ?_); refine box_event ?hg (N := 10) ?hd (cs := #[.int .i64 0, .int .i64 0]) (t := 40) ?hr ?_; (case hd => rfl); (case hg => rfl); (case hr => first | (go_simp; done) | (go_simp; rfl)); intro gb218 hg w9 hbox hb; have n0_ := Aside0.mk (Kd.V_below (Kd.V_elderB (by (with_reducible repeat (first | apply Kd.V_alloc | apply Kd.V_drewN | apply Kd.V_drew)); exact HO_0.out) gb218 (Nat.le_of_eq hg.symm)) hb); have n1_ := Aside0.mk (Kd.V_below (Kd.V_elderB (by (with_reducible repeat (first | apply Kd.V_alloc | apply Kd.V_drewN | apply Kd.V_drew)); exact HO_1.out) gb218 (Nat.le_of_eq hg.symm)) hb); have n2_ := Aside0.mk (Kd.R_below (Kd.R_elderB (by (with_reducible repeat (first | apply Kd.R_alloc | apply Kd.R_drewN | apply Kd.R_drew)); exact HO_6.out) gb218 (Nat.le_of_eq hg.symm)) hb); have n3_ := Aside0.mk (Kd.N_below (Kd.N_elderB (by (with_reducible repeat (first | apply Kd.N_alloc | apply Kd.N_drewN | apply Kd.N_drew)); exact HO_8.out) gb218 (Nat.le_of_eq hg.symm)) hb); have n4_ := Aside0.mk (below_step (by repeat (first | (with_reducible first | exact HB.out | apply below_alloc | apply pw_below_drewN | apply below_drew1) | exact HB.out)) hb); have n5_ := Aside0.mk (hbox); have n6_ := Aside0.mk ((by rw [hg]; exact (below_size (by repeat (first | (with_reducible first | exact HB.out | apply below_alloc | apply pw_below_drewN | apply below_drew1) | exact HB.out))) : w.heap.size ≤ gb218)); have n7_ := Aside0.mk ((by rw [hg]; exact (below_size (by repeat (first | (with_reducible first | exact HB.out | apply below_alloc | apply pw_below_drewN | apply below_drew1) | exact HB.out))) : w.heap.size ≤ gb218)); clear HO_0; clear HO_1; clear HO_6; clear HO_8; clear HB; have HO_0 := n0_; have HO_1 := n1_; have HO_6 := n2_; have HO_8 := n3_; have HB := n4_; have BK218 := n5_; have GW218 := n6_; have GE218 := n7_; clear n0_ n1_ n2_ n3_ n4_ n5_ n6_ n7_; clear hb hbox hg; have hcz10_0 : w9.cell? ⟨gb218, 0, none⟩ = some (.int .i64 0) := (blk_cell BK218.out 0).trans rfl; have hcz10_1 : w9.cell? ⟨gb218, 1, none⟩ = some (.int .i64 0) := (blk_cell BK218.out 1).trans rfl; have hfz10_0 := blk_frozen BK218.out 0; have hfz10_1 := blk_frozen BK218.out 1) | ((with_reducible refine gate_dst (N := 11) rfl ?_); refine box_event ?hg (N := 11) ?hd (cs := #[.int .i64 0, .int .i64 0]) (t := 40) ?hr ?_; (case hd => rfl); (case hg => rfl); (case hr => first | (go_simp; done) | (go_simp; rfl)); intro gb219 hg w11 hbox hb; have n0_ := Aside0.mk (Kd.V_below (Kd.V_elderB (by (with_reducible repeat (first | apply Kd.V_alloc | apply Kd.V_drewN | apply Kd.V_drew)); exact (Kd.V_mono (Kd.V_far (p := ⟨gb218, 1, none⟩) (Kd.V_far (p := ⟨gb218, 0, none⟩) (Kd.V_mono HO_0.out (fun k_ hk => (⟨hk, hk.2⟩ : _ ∧ k_ ≠ gb218))) (fun _ hk => hk.2) (.int .i64 0)) (fun _ hk => hk.2) (.int .i64 0)) (fun _ h_ => h_.1))) gb219 (Nat.le_of_eq hg.symm)) hb); have n1_ := Aside0.mk (Kd.V_below (Kd.V_elderB (by (with_reducible repeat (first | apply Kd.V_alloc | apply Kd.V_drewN | apply Kd.V_drew)); exact (Kd.V_mono (Kd.V_far (p := ⟨gb218, 1, none⟩) (Kd.V_far (p := ⟨gb218, 0, none⟩) (Kd.V_mono HO_1.out (fun k_ hk => (⟨hk, hk.2⟩ : _ ∧ k_ ≠ gb218))) (fun _ hk => hk.2) (.int .i64 0)) (fun _ hk => hk.2) (.int .i64 0)) (fun _ h_ => h_.1))) gb219 (Nat.le_of_eq hg.symm)) hb); have n2_ := Aside0.mk (Kd.R_below (Kd.R_elderB (by (with_reducible repeat (first | apply Kd.R_alloc | apply Kd.R_drewN | apply Kd.R_drew)); exact (Kd.R_mono (Kd.R_far (p := ⟨gb218, 1, none⟩) (Kd.R_far (p := ⟨gb218, 0, none⟩) (Kd.R_mono HO_6.out (fun k_ hk => (⟨hk, hk.2⟩ : _ ∧ k_ ≠ gb218))) (fun _ hk => hk.2) (.int .i64 0)) (fun _ hk => hk.2) (.int .i64 0)) (fun _ h_ => h_.1))) gb219 (Nat.le_of_eq hg.symm)) hb); have n3_ := Aside0.mk (Kd.N_below (Kd.N_elderB (by (with_reducible repeat (first | apply Kd.N_alloc | apply Kd.N_drewN | apply Kd.N_drew)); exact (Kd.N_mono (Kd.N_far (p := ⟨gb218, 1, none⟩) (Kd.N_far (p := ⟨gb218, 0, none⟩) (Kd.N_mono HO_8.out (fun k_ hk => (⟨hk, hk.2⟩ : _ ∧ k_ ≠ gb218))) (fun _ hk => hk.2) (.int .i64 0)) (fun _ hk => hk.2) (.int .i64 0)) (fun _ h_ => h_.1))) gb219 (Nat.le_of_eq hg.symm)) hb); have n4_ := Aside0.mk (blk_below (g := gb218) (o := .cells #[.int .i64 0, .int .i64 0] 40 (0, 0)) (by (with_reducible repeat (first | refine blk_drewN ?_ _ | refine blk_drew ?_ | refine blk_alloc ?_ _)); refine blk_put (cs := #[.int .i64 0, .int .i64 0]) ?_ 1 _ rfl; (with_reducible repeat (first | refine blk_drewN ?_ _ | refine blk_drew ?_ | refine blk_alloc ?_ _)); refine blk_put (cs := #[.int .i64 0, .int .i64 0]) ?_ 0 _ rfl; (with_reducible repeat (first | refine blk_drewN ?_ _ | refine blk_drew ?_ | refine blk_alloc ?_ _)); exact BK218.out) hb); have n5_ := Aside0.mk (below_step (by repeat (first | (with_reducible first | exact HB.out | apply below_alloc | apply pw_below_drewN | apply below_drew1 | refine below_set ?_ GE218.out) | exact HB.out)) hb); have n6_ := Aside0.mk (hbox); have n7_ := Aside0.mk ((by rw [hg]; exact (below_size (by repeat (first | (with_reducible first | exact HB.out | apply below_alloc | apply pw_below_drewN | apply below_drew1 | refine below_set ?_ GE218.out) | exact HB.out))) : w.heap.size ≤ gb219)); have n8_ := Aside0.mk ((by rw [hg]; exact (below_size (by repeat (first | (with_reducible first | exact HB.out | apply below_alloc | apply pw_below_drewN | apply below_drew1 | refine below_set ?_ GE218.out) | exact HB.out))) : w.heap.size ≤ gb219)); have n9_ := Aside0.mk ((by rw [hg]; exact Nat.ne_of_lt (blk_lt (g := gb218) (o := .cells #[.int .i64 0, .int .i64 0] 40 (0, 0)) (by (with_reducible repeat (first | refine blk_drewN ?_ _ | refine blk_drew ?_ | refine blk_alloc ?_ _)); refine blk_put (cs := #[.int .i64 0, .int .i64 0]) ?_ 1 _ rfl; (with_reducible repeat (first | refine blk_drewN ?_ _ | refine blk_drew ?_ | refine blk_alloc ?_ _)); refine blk_put (cs := #[.int .i64 0, .int .i64 0]) ?_ 0 _ rfl; (with_reducible repeat (first | refine blk_drewN ?_ _ | refine blk_drew ?_ | refine blk_alloc ?_ _)); exact BK218.out)) : gb218 ≠ gb219)); have n10_ := Aside0.mk ((by rw [hg]; exact Nat.ne_of_gt (blk_lt (g := gb218) (o := .cells #[.int .i64 0, .int .i64 0] 40 (0, 0)) (by (with_reducible repeat (first | refine blk_drewN ?_ _ | refine blk_drew ?_ | refine blk_alloc ?_ _)); refine blk_put (cs := #[.int .i64 0, .int .i64 0]) ?_ 1 _ rfl; (with_reducible repeat (first | refine blk_drewN ?_ _ | refine blk_drew ?_ | refine blk_alloc ?_ _)); refine blk_put (cs := #[.int .i64 0, .int .i64 0]) ?_ 0 _ rfl; (with_reducible repeat (first | refine blk_drewN ?_ _ | refine blk_drew ?_ | refine blk_alloc ?_ _)); exact BK218.out)) : gb219 ≠ gb218)); clear HO_0; clear HO_1; clear HO_6; clear HO_8; clear BK218; clear HB; have HO_0 := n0_; have HO_1 := n1_; have HO_6 := n2_; have HO_8 := n3_; have BK218 := n4_; have HB := n5_; have BK219 := n6_; have GW219 := n7_; have GE219 := n8_; have NB218_219 := n9_; have NB219_218 := n10_; clear n0_ n1_ n2_ n3_ n4_ n5_ n6_ n7_ n8_ n9_ n10_; clear hb hbox hg; have hnb12 := NB219_218.out; have hnc12 := NB218_219.out; have hcz13_0 : w11.cell? ⟨gb219, 0, none⟩ = some (.int .i64 0) := (blk_cell BK219.out 0).trans rfl; have hcz13_1 : w11.cell? ⟨gb219, 1, none⟩ = some (.int .i64 0) := (blk_cell BK219.out 1).trans rfl; have hfz13_0 := blk_frozen BK219.out 0; have hfz13_1 := blk_frozen BK219.out 1))
     (try simp only [Act.put, List.setIfInBounds_toArray, List.set_cons_zero, List.set_cons_succ])
     go_cut [] (fun wc => ∃ (kq : Nat) (x219000_6 : Int) (x219001_6 : Int), Aside0 (forebearref05_Hunks.j1 kq l0 l1 t214 x8_1 x9_1 x219000_6 x219001_6 (l0.length : Int) (l1.length : Int) = some (r1, r2)) ∧ Aside0 (kq ≤ k1) ∧ Aside0 (Kd.V Kd.string 9 wc w.heap.size (fun k_ => ((P0_ k_ ∨ P1_ k_) ∨ w.heap.size ≤ k_) ∧ some k_ ≠ ((.slice Ao8 t214.length co8) : Value).ownBlock ∧ some k_ ≠ (u8 : Value).ownBlock ∧ k_ ≠ gb218 ∧ k_ ≠ gb219) (.slice A0 l0.length c0) l0) ∧ Aside0 (Kd.V Kd.string 9 wc w.heap.size (fun k_ => ((P0_ k_ ∨ P1_ k_) ∨ w.heap.size ≤ k_) ∧ some k_ ≠ ((.slice Ao8 t214.length co8) : Value).ownBlock ∧ some k_ ≠ (u8 : Value).ownBlock ∧ k_ ≠ gb218 ∧ k_ ≠ gb219) (.slice A1 l1.length c1) l1) ∧ Aside0 (Kd.R k40 40 wc w.heap.size (fun k_ => (w.heap.size ≤ k_) ∧ k_ ≠ gb218 ∧ k_ ≠ gb219) (.slice Ao8 t214.length co8) t214) ∧ Aside0 (Kd.N k47 47 wc w.heap.size (fun k_ => ((P0_ k_ ∨ P1_ k_) ∨ w.heap.size ≤ k_) ∧ some k_ ≠ ((.slice Ao8 t214.length co8) : Value).ownBlock ∧ k_ ≠ gb218 ∧ k_ ≠ gb219) u8 x8_1) ∧ Aside0 (wc.heap[gb218]? = some (.cells #[.int .i64 x219000_6, .int .i64 x219001_6] 40 (0, 0))) ∧ Aside0 (wc.heap[gb219]? = some (.cells #[.int .i64 (l0.length : Int), .int .i64 (l1.length : Int)] 40 (0, 0))) ∧ Aside0 (Below w.heap.size w wc))
     case first =>
      have H := HC7.out
      clear HC7
      by_cases c14 : x9_1 > 0
      ·rw [if_pos c14] at H
       have c14b0 : decide (0 < x9_1) = true := decide_eq_true c14
       clear c14
       (first | rw [c14b0] | (simp only [i64_w, i32_w]; rw [c14b0]) | skip)
       obtain ⟨ji15, hji15⟩ : ∃ j_ : Int, (wrap64 (x9_1 - 1)) = j_ := ⟨_, rfl⟩
       replace H : (if 0 ≤ (ji15) then (if (ji15) < (t214.length : Int) then (forebearref05_Hunks.j1 k1 l0 l1 t214 x8_1 x9_1 (wrap64 (((rd_T40 t214 (ji15)).f0) + 1)) (wrap64 (((rd_T40 t214 (ji15)).f1) + 1)) (l0.length : Int) (l1.length : Int)) else (none)) else (none)) = some (r1, r2) := by first | (rw [hji15] at H; exact H) | (simp only [hji15] at H ⊢; exact H)
       have hji15w : (IntKind.i64.wrap (x9_1 - 1)) = ji15 := (i64_w _).trans hji15
       by_cases c16 : 0 ≤ (ji15)
       ·rw [if_pos c16] at H
        have c16b0 : decide (0 ≤ (ji15)) = true := decide_eq_true c16
        clear c16
        by_cases c17 : (ji15) < (t214.length : Int)
        ·rw [if_pos c17] at H
         have c17b0 : decide ((ji15) < (t214.length : Int)) = true := decide_eq_true c17
         clear c17
         have H' := Aside0.mk H
         clear H
         try go_wp2
         have n0_ : Aside0 (Kd.V Kd.string 9 ((w11.setCell ⟨gb219, 0, none⟩ (.int .i64 (l0.length : Int))).setCell ⟨gb219, 1, none⟩ (.int .i64 (l1.length : Int))) w.heap.size (fun k_ => ((P0_ k_ ∨ P1_ k_) ∨ w.heap.size ≤ k_) ∧ some k_ ≠ (.slice Ao8 t214.length co8 : Value).ownBlock ∧ some k_ ≠ (u8 : Value).ownBlock ∧ k_ ≠ gb218 ∧ k_ ≠ gb219) (.slice A0 l0.length c0) l0) := ⟨by (with_reducible repeat (first | apply Kd.V_alloc | apply Kd.V_drewN | apply Kd.V_drew)); exact Kd.V_mono (Kd.V_far (p := ⟨gb219, 1, none⟩) (Kd.V_far (p := ⟨gb219, 0, none⟩) (Kd.V_mono HO_0.out (fun k_ hk => (⟨hk, hk.2⟩ : _ ∧ k_ ≠ gb219))) (fun _ hk => hk.2) (.int .i64 (l0.length : Int))) (fun _ hk => hk.2) (.int .i64 (l1.length : Int))) (fun _ hk => ⟨hk.1.1.1.1, ⟨hk.1.1.1.2.1, ⟨hk.1.1.1.2.2, ⟨hk.1.1.2, hk.1.2⟩⟩⟩⟩)⟩
         have n1_ : Aside0 (Kd.V Kd.string 9 ((w11.setCell ⟨gb219, 0, none⟩ (.int .i64 (l0.length : Int))).setCell ⟨gb219, 1, none⟩ (.int .i64 (l1.length : Int))) w.heap.size (fun k_ => ((P0_ k_ ∨ P1_ k_) ∨ w.heap.size ≤ k_) ∧ some k_ ≠ (.slice Ao8 t214.length co8 : Value).ownBlock ∧ some k_ ≠ (u8 : Value).ownBlock ∧ k_ ≠ gb218 ∧ k_ ≠ gb219) (.slice A1 l1.length c1) l1) := ⟨by (with_reducible repeat (first | apply Kd.V_alloc | apply Kd.V_drewN | apply Kd.V_drew)); exact Kd.V_mono (Kd.V_far (p := ⟨gb219, 1, none⟩) (Kd.V_far (p := ⟨gb219, 0, none⟩) (Kd.V_mono HO_1.out (fun k_ hk => (⟨hk, hk.2⟩ : _ ∧ k_ ≠ gb219))) (fun _ hk => hk.2) (.int .i64 (l0.length : Int))) (fun _ hk => hk.2) (.int .i64 (l1.length : Int))) (fun _ hk => ⟨hk.1.1.1.1, ⟨hk.1.1.1.2.1, ⟨hk.1.1.1.2.2, ⟨hk.1.1.2, hk.1.2⟩⟩⟩⟩)⟩
         have n2_ : Aside0 (Kd.R k40 40 ((w11.setCell ⟨gb219, 0, none⟩ (.int .i64 (l0.length : Int))).setCell ⟨gb219, 1, none⟩ (.int .i64 (l1.length : Int))) w.heap.size (fun k_ => (w.heap.size ≤ k_) ∧ k_ ≠ gb218 ∧ k_ ≠ gb219) (.slice Ao8 t214.length co8) t214) := ⟨by (with_reducible repeat (first | apply Kd.R_alloc | apply Kd.R_drewN | apply Kd.R_drew)); exact Kd.R_mono (Kd.R_far (p := ⟨gb219, 1, none⟩) (Kd.R_far (p := ⟨gb219, 0, none⟩) (Kd.R_mono HO_6.out (fun k_ hk => (⟨hk, hk.2⟩ : _ ∧ k_ ≠ gb219))) (fun _ hk => hk.2) (.int .i64 (l0.length : Int))) (fun _ hk => hk.2) (.int .i64 (l1.length : Int))) (fun _ hk => ⟨hk.1.1.1, ⟨hk.1.1.2, hk.1.2⟩⟩)⟩
         have n3_ : Aside0 (Kd.N k47 47 ((w11.setCell ⟨gb219, 0, none⟩ (.int .i64 (l0.length : Int))).setCell ⟨gb219, 1, none⟩ (.int .i64 (l1.length : Int))) w.heap.size (fun k_ => ((P0_ k_ ∨ P1_ k_) ∨ w.heap.size ≤ k_) ∧ some k_ ≠ (.slice Ao8 t214.length co8 : Value).ownBlock ∧ k_ ≠ gb218 ∧ k_ ≠ gb219) u8 x8_1) := ⟨by (with_reducible repeat (first | apply Kd.N_alloc | apply Kd.N_drewN | apply Kd.N_drew)); exact Kd.N_mono (Kd.N_far (p := ⟨gb219, 1, none⟩) (Kd.N_far (p := ⟨gb219, 0, none⟩) (Kd.N_mono HO_8.out (fun k_ hk => (⟨hk, hk.2⟩ : _ ∧ k_ ≠ gb219))) (fun _ hk => hk.2) (.int .i64 (l0.length : Int))) (fun _ hk => hk.2) (.int .i64 (l1.length : Int))) (fun _ hk => ⟨hk.1.1.1.1, ⟨hk.1.1.1.2, ⟨hk.1.1.2, hk.1.2⟩⟩⟩)⟩
         have n4_ : Aside0 (((w11.setCell ⟨gb219, 0, none⟩ (.int .i64 (l0.length : Int))).setCell ⟨gb219, 1, none⟩ (.int .i64 (l1.length : Int))).heap[gb218]? = some (.cells #[.int .i64 0, .int .i64 0] 40 (0, 0))) := ⟨by (with_reducible repeat (first | refine blk_drewN ?_ _ | refine blk_drew ?_ | refine blk_alloc ?_ _)); refine blk_far ?_ NB218_219.out _; (with_reducible repeat (first | refine blk_drewN ?_ _ | refine blk_drew ?_ | refine blk_alloc ?_ _)); refine blk_far ?_ NB218_219.out _; (with_reducible repeat (first | refine blk_drewN ?_ _ | refine blk_drew ?_ | refine blk_alloc ?_ _)); exact BK218.out⟩
         have n5_ : Aside0 (((w11.setCell ⟨gb219, 0, none⟩ (.int .i64 (l0.length : Int))).setCell ⟨gb219, 1, none⟩ (.int .i64 (l1.length : Int))).heap[gb219]? = some (.cells #[.int .i64 (l0.length : Int), .int .i64 (l1.length : Int)] 40 (0, 0))) := ⟨by (with_reducible repeat (first | refine blk_drewN ?_ _ | refine blk_drew ?_ | refine blk_alloc ?_ _)); refine blk_put (cs := #[.int .i64 (l0.length : Int), .int .i64 0]) ?_ 1 _ rfl; (with_reducible repeat (first | refine blk_drewN ?_ _ | refine blk_drew ?_ | refine blk_alloc ?_ _)); refine blk_put (cs := #[.int .i64 0, .int .i64 0]) ?_ 0 _ rfl; (with_reducible repeat (first | refine blk_drewN ?_ _ | refine blk_drew ?_ | refine blk_alloc ?_ _)); exact BK219.out⟩
         have n6_ : Aside0 (Below w.heap.size w ((w11.setCell ⟨gb219, 0, none⟩ (.int .i64 (l0.length : Int))).setCell ⟨gb219, 1, none⟩ (.int .i64 (l1.length : Int)))) := ⟨by repeat (first | (with_reducible first | exact HB.out | apply below_alloc | apply pw_below_drewN | apply below_drew1 | refine below_set ?_ GE218.out | refine below_set ?_ GE219.out) | exact HB.out)⟩
         (try clear HO_0)
         (try clear HO_1)
         (try clear HO_6)
         (try clear HO_8)
         (try clear BK218)
         (try clear BK219)
         (try clear HB)
         generalize ((w11.setCell ⟨gb219, 0, none⟩ (.int .i64 (l0.length : Int))).setCell ⟨gb219, 1, none⟩ (.int .i64 (l1.length : Int))) = w18 at n0_ n1_ n2_ n3_ n4_ n5_ n6_ ⊢
         have HO_0 := n0_
         have HO_1 := n1_
         have HO_6 := n2_
         have HO_8 := n3_
         have BK218 := n4_
         have BK219 := n5_
         have HB := n6_
         clear n0_ n1_ n2_ n3_ n4_ n5_ n6_
         have n0_ := Aside0.mk (Kd.V_drew HO_0.out)
         have n1_ := Aside0.mk (Kd.V_drew HO_1.out)
         have n2_ := Aside0.mk (Kd.R_drew HO_6.out)
         have n3_ := Aside0.mk (Kd.N_drew HO_8.out)
         have n4_ := Aside0.mk (blk_drew BK218.out)
         have n5_ := Aside0.mk (blk_drew BK219.out)
         have n6_ := Aside0.mk (below_drew1 HB.out)
         clear HO_0
         clear HO_1
         clear HO_6
         clear HO_8
         clear BK218
         clear BK219
         clear HB
         have HO_0 := n0_
         have HO_1 := n1_
         have HO_6 := n2_
         have HO_8 := n3_
         have BK218 := n4_
         have BK219 := n5_
         have HB := n6_
         clear n0_ n1_ n2_ n3_ n4_ n5_ n6_
         have p220 : 0 ≤ ((ji15) : Int) := of_decide_eq_true (by first | (with_reducible assumption) | assumption)
         have q220 : (ji15) < (t214.length : Int) := of_decide_eq_true (by first | (with_reducible assumption) | assumption)
         obtain ⟨ad220, e220, hx220_0, hx220_1⟩ := at_T40 (Kd.R_reads' HO_6.out).2.2 (ji15) p220 q220
         cases e220
         replace p220 := eq_true p220
         replace q220 := eq_true q220
         have p221 : 0 ≤ ((ji15) : Int) := of_decide_eq_true (by first | (with_reducible assumption) | assumption)
         have q221 : (ji15) < (t214.length : Int) := of_decide_eq_true (by first | (with_reducible assumption) | assumption)
         obtain ⟨ad221, e221, hx221_0, hx221_1⟩ := at_T40 (Kd.R_reads' HO_6.out).2.2 (ji15) p221 q221
         obtain rfl : ad220 = ad221 := (by injection e221)
         replace p221 := eq_true p221
         replace q221 := eq_true q221
         refine start_ (n := 16) (S := fun w' => w'.cell? (ad220.add (((ji15)).toNat * 2)) = some (.int .i64 ((rd_T40 t214 (ji15)).f0)) ∧ w'.cell? ⟨(ad220.add (((ji15)).toNat * 2)).block, (ad220.add (((ji15)).toNat * 2)).off + 1, none⟩ = some (.int .i64 ((rd_T40 t214 (ji15)).f1)) ∧ w'.cell? (ad220.add (((ji15)).toNat * 2)) = some (.int .i64 ((rd_T40 t214 (ji15)).f0)) ∧ w'.cell? ⟨(ad220.add (((ji15)).toNat * 2)).block, (ad220.add (((ji15)).toNat * 2)).off + 1, none⟩ = some (.int .i64 ((rd_T40 t214 (ji15)).f1))) (ds := []) (vb 0 16) (by kernel_rfl) rfl rfl ⟨hx220_0, hx220_1, hx221_0, hx221_1⟩ (fun hHeld => ?_); refine with_tabW forebearref05_Hunks.tab11 forebearref05_Hunks.bits11 (fun HT_ HW_ => ?_)
         generalize w18.drew = w19 at HO_0 HO_1 HO_6 HO_8 BK218 BK219 HB hx220_0 hx220_1 hx221_0 hx221_1 hHeld ⊢
         refine pure_ (i := 0) (N := some 35) (v := ?_) (a' := ?_) (vb 1 16) rfl rfl (any_of HT_.out (by kernel_rfl)) (fun _ _ _ h => h) (Or.inl ⟨by rfl, ?_⟩) ?_ ?_
         rotate_left
         ·intro w'
          go_simp
          with_reducible rfl
         rotate_left
         ·simp only [Act.put, List.setIfInBounds_toArray, List.set_cons_zero, List.set_cons_succ, i64_w, i32_w]
          rfl
         refine pure_ (i := 1) (N := some 36) (v := ?_) (a' := ?_) (vb 3 16) rfl rfl (any_of HT_.out (by kernel_rfl)) (fun _ _ _ h => h) (Or.inl ⟨by rfl, ?_⟩) ?_ ?_
         rotate_left
         ·intro w'
          go_simp
          with_reducible rfl
         rotate_left
         ·simp only [Act.put, List.setIfInBounds_toArray, List.set_cons_zero, List.set_cons_succ, i64_w, i32_w]
          rfl
         refine pure_ (i := 2) (N := some 37) (v := ?_) (a' := ?_) (vb 7 16) rfl rfl (any_of HT_.out (by kernel_rfl)) (fun _ _ _ h => h) (Or.inl ⟨by rfl, ?_⟩) ?_ ?_
         rotate_left
         ·intro w'
          go_simp
          with_reducible rfl
         rotate_left
         ·simp only [Act.put, List.setIfInBounds_toArray, List.set_cons_zero, List.set_cons_succ, i64_w, i32_w]
          rfl
         refine pure_ (i := 3) (N := some 38) (v := ?_) (a' := ?_) (vb 15 16) rfl rfl (any_of HT_.out (by kernel_rfl)) (fun _ _ _ h => h) (Or.inl ⟨by rfl, ?_⟩) ?_ ?_
         rotate_left
         ·intro w'
          go_simp
          with_reducible rfl
         rotate_left
         ·simp only [Act.put, List.setIfInBounds_toArray, List.set_cons_zero, List.set_cons_succ, i64_w, i32_w]
          rfl
         refine pure_ (i := 4) (N := some 39) (v := ?_) (a' := ?_) (vb 31 16) rfl rfl (any_of HT_.out (by kernel_rfl)) (fun _ _ _ h => h) (Or.inl ⟨by rfl, ?_⟩) ?_ ?_
         rotate_left
         ·intro w'
          go_simp
          with_reducible rfl
         rotate_left
         ·simp only [Act.put, List.setIfInBounds_toArray, List.set_cons_zero, List.set_cons_succ, i64_w, i32_w]
          rfl
         refine pure_ (i := 7) (N := some 42) (v := ?_) (a' := ?_) (vb 159 16) rfl rfl (any_of HT_.out (by kernel_rfl)) (fun _ _ _ h => h) (Or.inl ⟨by rfl, ?_⟩) ?_ ?_
         rotate_left
         ·intro w'
          go_simp
          with_reducible rfl
         rotate_left
         ·simp only [Act.put, List.setIfInBounds_toArray, List.set_cons_zero, List.set_cons_succ, i64_w, i32_w]
          rfl
         refine pure_ (i := 8) (N := some 43) (v := ?_) (a' := ?_) (vb 415 16) rfl rfl (any_of HT_.out (by kernel_rfl)) (fun _ _ _ h => h) (Or.inl ⟨by rfl, ?_⟩) ?_ ?_
         rotate_left
         ·intro w'
          go_simp
          with_reducible rfl
         rotate_left
         ·simp only [Act.put, List.setIfInBounds_toArray, List.set_cons_zero, List.set_cons_succ, i64_w, i32_w]
          rfl
         refine pure_ (i := 9) (N := some 44) (v := ?_) (a' := ?_) (vb 927 16) rfl rfl (any_of HT_.out (by kernel_rfl)) (fun _ _ _ h => h) (Or.inl ⟨by rfl, ?_⟩) ?_ ?_
         rotate_left
         ·intro w'
          go_simp
          with_reducible rfl
         rotate_left
         ·simp only [Act.put, List.setIfInBounds_toArray, List.set_cons_zero, List.set_cons_succ, i64_w, i32_w]
          rfl
         refine pure_ (i := 10) (N := some 45) (v := ?_) (a' := ?_) (vb 1951 16) rfl rfl (any_of HT_.out (by kernel_rfl)) (fun _ _ _ h => h) (Or.inl ⟨by rfl, ?_⟩) ?_ ?_
         rotate_left
         ·intro w'
          go_simp
          with_reducible rfl
         rotate_left
         ·simp only [Act.put, List.setIfInBounds_toArray, List.set_cons_zero, List.set_cons_succ, i64_w, i32_w]
          rfl
         refine pure_ (i := 11) (N := some 46) (v := ?_) (a' := ?_) (vb 3999 16) rfl rfl (any_of HT_.out (by kernel_rfl)) (fun _ _ _ h => h) (Or.inl ⟨by rfl, ?_⟩) ?_ ?_
         rotate_left
         ·intro w'
          go_simp
          with_reducible rfl
         rotate_left
         ·simp only [Act.put, List.setIfInBounds_toArray, List.set_cons_zero, List.set_cons_succ, i64_w, i32_w]
          rfl
         refine take_ (i := 5) (N := some 40) (v := ?_) (a' := ?_) (vb 4031 16) rfl rfl (take_ofW HT_.out HW_.out (by kernel_rfl)) (fun _ _ _ h => h) (Or.inl ⟨by rfl, ?_⟩) hHeld ?_ ?_
         rotate_left
         ·rintro w' ⟨s0, s1, s2, s3⟩
          go_simp
          with_reducible rfl
         rotate_left
         ·simp only [Act.put, List.setIfInBounds_toArray, List.set_cons_zero, List.set_cons_succ, i64_w, i32_w]
          rfl
         refine pure_ (i := 6) (N := some 41) (v := ?_) (a' := ?_) (vb 4095 16) rfl rfl (any_of HT_.out (by kernel_rfl)) (fun _ _ _ h => h) (Or.inl ⟨by rfl, ?_⟩) ?_ ?_
         rotate_left
         ·intro w'
          go_simp
          with_reducible rfl
         rotate_left
         ·simp only [Act.put, List.setIfInBounds_toArray, List.set_cons_zero, List.set_cons_succ, i64_w, i32_w]
          rfl
         refine take_ (i := 12) (N := some 47) (v := ?_) (a' := ?_) (vb 8191 16) rfl rfl (take_ofW HT_.out HW_.out (by kernel_rfl)) (fun _ _ _ h => h) (Or.inl ⟨by rfl, ?_⟩) hHeld ?_ ?_
         rotate_left
         ·rintro w' ⟨s0, s1, s2, s3⟩
          go_simp
          with_reducible rfl
         rotate_left
         ·simp only [Act.put, List.setIfInBounds_toArray, List.set_cons_zero, List.set_cons_succ, i64_w, i32_w]
          rfl
         refine pure_ (i := 13) (N := some 48) (v := ?_) (a' := ?_) (vb 16383 16) rfl rfl (any_of HT_.out (by kernel_rfl)) (fun _ _ _ h => h) (Or.inl ⟨by rfl, ?_⟩) ?_ ?_
         rotate_left
         ·intro w'
          go_simp
          with_reducible rfl
         rotate_left
         ·simp only [Act.put, List.setIfInBounds_toArray, List.set_cons_zero, List.set_cons_succ, i64_w, i32_w]
          rfl
         refine pure_ (i := 14) (N := some 49) (v := ?_) (a' := ?_) (vb 32767 16) rfl rfl (any_of HT_.out (by kernel_rfl)) (fun _ _ _ h => h) (Or.inl ⟨by rfl, ?_⟩) ?_ ?_
         rotate_left
         ·intro w'
          go_simp
          with_reducible rfl
         rotate_left
         ·simp only [Act.put, List.setIfInBounds_toArray, List.set_cons_zero, List.set_cons_succ, i64_w, i32_w]
          rfl
         refine one_ (i := 15) (N := none) (vb 65535 16) rfl rfl (one_of HT_.out (by kernel_rfl)) (by decide) (fun K hK => ?_)
         have hs20 : w19.cell? ⟨gb218, 0, none⟩ = some (.int .i64 0) := (blk_cell BK218.out 0).trans rfl
         have hfs20 := blk_frozen BK218.out 0
         have hns20_1 := NB219_218.out
         have hms20_1 := NB218_219.out
         have hs21 : w19.cell? ⟨gb218, 1, none⟩ = some (.int .i64 0) := (blk_cell BK218.out 1).trans rfl
         have hfs21 := blk_frozen BK218.out 1
         have hns21_1 := NB219_218.out
         have hms21_1 := NB218_219.out
         refine skip_ (w1 := ?_) (by rfl) rfl ?_ ?_
         rotate_left
         ·go_simp
          rfl
         refine hK.out _ _ ⟨((cell_far (p := ⟨gb218, _, none⟩) (by first | exact Kd.own_blk (Kd.R_away HO_6.out (fun _ hk => hk.2.1)) | (rw [add_block]; exact Kd.own_blk (Kd.R_away HO_6.out (fun _ hk => hk.2.1))) | (show (Addr.add _ _).block ≠ _; rw [add_block]; exact Kd.own_blk (Kd.R_away HO_6.out (fun _ hk => hk.2.1))) | (dsimp only; exact Kd.own_blk (Kd.R_away HO_6.out (fun _ hk => hk.2.1)))) _).trans (((cell_far (p := ⟨gb218, _, none⟩) (by first | exact Kd.own_blk (Kd.R_away HO_6.out (fun _ hk => hk.2.1)) | (rw [add_block]; exact Kd.own_blk (Kd.R_away HO_6.out (fun _ hk => hk.2.1))) | (show (Addr.add _ _).block ≠ _; rw [add_block]; exact Kd.own_blk (Kd.R_away HO_6.out (fun _ hk => hk.2.1))) | (dsimp only; exact Kd.own_blk (Kd.R_away HO_6.out (fun _ hk => hk.2.1)))) _).trans (hHeld.1)))), ((cell_far (p := ⟨gb218, _, none⟩) (by first | exact Kd.own_blk (Kd.R_away HO_6.out (fun _ hk => hk.2.1)) | (rw [add_block]; exact Kd.own_blk (Kd.R_away HO_6.out (fun _ hk => hk.2.1))) | (show (Addr.add _ _).block ≠ _; rw [add_block]; exact Kd.own_blk (Kd.R_away HO_6.out (fun _ hk => hk.2.1))) | (dsimp only; exact Kd.own_blk (Kd.R_away HO_6.out (fun _ hk => hk.2.1)))) _).trans (((cell_far (p := ⟨gb218, _, none⟩) (by first | exact Kd.own_blk (Kd.R_away HO_6.out (fun _ hk => hk.2.1)) | (rw [add_block]; exact Kd.own_blk (Kd.R_away HO_6.out (fun _ hk => hk.2.1))) | (show (Addr.add _ _).block ≠ _; rw [add_block]; exact Kd.own_blk (Kd.R_away HO_6.out (fun _ hk => hk.2.1))) | (dsimp only; exact Kd.own_blk (Kd.R_away HO_6.out (fun _ hk => hk.2.1)))) _).trans (hHeld.2.1)))), ((cell_far (p := ⟨gb218, _, none⟩) (by first | exact Kd.own_blk (Kd.R_away HO_6.out (fun _ hk => hk.2.1)) | (rw [add_block]; exact Kd.own_blk (Kd.R_away HO_6.out (fun _ hk => hk.2.1))) | (show (Addr.add _ _).block ≠ _; rw [add_block]; exact Kd.own_blk (Kd.R_away HO_6.out (fun _ hk => hk.2.1))) | (dsimp only; exact Kd.own_blk (Kd.R_away HO_6.out (fun _ hk => hk.2.1)))) _).trans (((cell_far (p := ⟨gb218, _, none⟩) (by first | exact Kd.own_blk (Kd.R_away HO_6.out (fun _ hk => hk.2.1)) | (rw [add_block]; exact Kd.own_blk (Kd.R_away HO_6.out (fun _ hk => hk.2.1))) | (show (Addr.add _ _).block ≠ _; rw [add_block]; exact Kd.own_blk (Kd.R_away HO_6.out (fun _ hk => hk.2.1))) | (dsimp only; exact Kd.own_blk (Kd.R_away HO_6.out (fun _ hk => hk.2.1)))) _).trans (hHeld.2.2.1)))), ((cell_far (p := ⟨gb218, _, none⟩) (by first | exact Kd.own_blk (Kd.R_away HO_6.out (fun _ hk => hk.2.1)) | (rw [add_block]; exact Kd.own_blk (Kd.R_away HO_6.out (fun _ hk => hk.2.1))) | (show (Addr.add _ _).block ≠ _; rw [add_block]; exact Kd.own_blk (Kd.R_away HO_6.out (fun _ hk => hk.2.1))) | (dsimp only; exact Kd.own_blk (Kd.R_away HO_6.out (fun _ hk => hk.2.1)))) _).trans (((cell_far (p := ⟨gb218, _, none⟩) (by first | exact Kd.own_blk (Kd.R_away HO_6.out (fun _ hk => hk.2.1)) | (rw [add_block]; exact Kd.own_blk (Kd.R_away HO_6.out (fun _ hk => hk.2.1))) | (show (Addr.add _ _).block ≠ _; rw [add_block]; exact Kd.own_blk (Kd.R_away HO_6.out (fun _ hk => hk.2.1))) | (dsimp only; exact Kd.own_blk (Kd.R_away HO_6.out (fun _ hk => hk.2.1)))) _).trans (hHeld.2.2.2))))⟩ (fun hHeld => ?_)
         clear hK K
         refine done_ (done_of HT_.out (by kernel_rfl)) ?_
         try go_wp2
         go_meet
         case rel => exact ⟨_, (wrap64 (((rd_T40 t214 (ji15)).f0) + 1)), (wrap64 (((rd_T40 t214 (ji15)).f1) + 1)), H', ⟨by have := HK1.out; first | omega | exact Nat.le_refl _⟩, ⟨by (with_reducible repeat (first | apply Kd.V_alloc | apply Kd.V_drewN | apply Kd.V_drew)); exact Kd.V_mono (Kd.V_far (p := ⟨gb218, 1, none⟩) (Kd.V_far (p := ⟨gb218, 0, none⟩) (Kd.V_mono HO_0.out (fun k_ hk => (⟨hk, hk.2.2.2.1⟩ : _ ∧ k_ ≠ gb218))) (fun _ hk => hk.2) (.int .i64 (wrap64 (((rd_T40 t214 (ji15)).f0) + 1)))) (fun _ hk => hk.2) (.int .i64 (wrap64 (((rd_T40 t214 (ji15)).f1) + 1)))) (fun _ hk => ⟨hk.1.1, ⟨hk.1.2.1, ⟨hk.1.2.2.1, ⟨hk.1.2.2.2.1, hk.1.2.2.2.2⟩⟩⟩⟩)⟩, ⟨by (with_reducible repeat (first | apply Kd.V_alloc | apply Kd.V_drewN | apply Kd.V_drew)); exact Kd.V_mono (Kd.V_far (p := ⟨gb218, 1, none⟩) (Kd.V_far (p := ⟨gb218, 0, none⟩) (Kd.V_mono HO_1.out (fun k_ hk => (⟨hk, hk.2.2.2.1⟩ : _ ∧ k_ ≠ gb218))) (fun _ hk => hk.2) (.int .i64 (wrap64 (((rd_T40 t214 (ji15)).f0) + 1)))) (fun _ hk => hk.2) (.int .i64 (wrap64 (((rd_T40 t214 (ji15)).f1) + 1)))) (fun _ hk => ⟨hk.1.1, ⟨hk.1.2.1, ⟨hk.1.2.2.1, ⟨hk.1.2.2.2.1, hk.1.2.2.2.2⟩⟩⟩⟩)⟩, ⟨by (with_reducible repeat (first | apply Kd.R_alloc | apply Kd.R_drewN | apply Kd.R_drew)); exact Kd.R_mono (Kd.R_far (p := ⟨gb218, 1, none⟩) (Kd.R_far (p := ⟨gb218, 0, none⟩) (Kd.R_mono HO_6.out (fun k_ hk => (⟨hk, hk.2.1⟩ : _ ∧ k_ ≠ gb218))) (fun _ hk => hk.2) (.int .i64 (wrap64 (((rd_T40 t214 (ji15)).f0) + 1)))) (fun _ hk => hk.2) (.int .i64 (wrap64 (((rd_T40 t214 (ji15)).f1) + 1)))) (fun _ hk => ⟨hk.1.1, ⟨hk.1.2.1, hk.1.2.2⟩⟩)⟩, ⟨by (with_reducible repeat (first | apply Kd.N_alloc | apply Kd.N_drewN | apply Kd.N_drew)); exact Kd.N_mono (Kd.N_far (p := ⟨gb218, 1, none⟩) (Kd.N_far (p := ⟨gb218, 0, none⟩) (Kd.N_mono HO_8.out (fun k_ hk => (⟨hk, hk.2.2.1⟩ : _ ∧ k_ ≠ gb218))) (fun _ hk => hk.2) (.int .i64 (wrap64 (((rd_T40 t214 (ji15)).f0) + 1)))) (fun _ hk => hk.2) (.int .i64 (wrap64 (((rd_T40 t214 (ji15)).f1) + 1)))) (fun _ hk => ⟨hk.1.1, ⟨hk.1.2.1, ⟨hk.1.2.2.1, hk.1.2.2.2⟩⟩⟩)⟩, ⟨by (with_reducible repeat (first | refine blk_drewN ?_ _ | refine blk_drew ?_ | refine blk_alloc ?_ _)); refine blk_put (cs := #[.int .i64 (wrap64 (((rd_T40 t214 (ji15)).f0) + 1)), .int .i64 0]) ?_ 1 _ rfl; (with_reducible repeat (first | refine blk_drewN ?_ _ | refine blk_drew ?_ | refine blk_alloc ?_ _)); refine blk_put (cs := #[.int .i64 0, .int .i64 0]) ?_ 0 _ rfl; (with_reducible repeat (first | refine blk_drewN ?_ _ | refine blk_drew ?_ | refine blk_alloc ?_ _)); exact BK218.out⟩, ⟨by (with_reducible repeat (first | refine blk_drewN ?_ _ | refine blk_drew ?_ | refine blk_alloc ?_ _)); refine blk_far ?_ NB219_218.out _; (with_reducible repeat (first | refine blk_drewN ?_ _ | refine blk_drew ?_ | refine blk_alloc ?_ _)); refine blk_far ?_ NB219_218.out _; (with_reducible repeat (first | refine blk_drewN ?_ _ | refine blk_drew ?_ | refine blk_alloc ?_ _)); exact BK219.out⟩, ⟨by repeat (first | (with_reducible first | exact HB.out | apply below_alloc | apply pw_below_drewN | apply below_drew1 | refine below_set ?_ GE218.out | refine below_set ?_ GE219.out) | exact HB.out)⟩⟩
        ·rw [if_neg c17] at H
         exact absurd H (by simp)
       ·rw [if_neg c16] at H
        exact absurd H (by simp)
      ·rw [if_neg c14] at H
       have c14b0 : decide (0 < x9_1) = false := decide_eq_false c14
       clear c14
       (first | rw [c14b0] | (simp only [i64_w, i32_w]; rw [c14b0]) | skip)
       have H' := Aside0.mk H
       clear H
       go_wp2
       go_meet
       case rel => exact ⟨_, (0), (0), H', ⟨by have := HK1.out; first | omega | exact Nat.le_refl _⟩, ⟨by (with_reducible repeat (first | apply Kd.V_alloc | apply Kd.V_drewN | apply Kd.V_drew)); exact Kd.V_mono (Kd.V_far (p := ⟨gb219, 1, none⟩) (Kd.V_far (p := ⟨gb219, 0, none⟩) (Kd.V_mono HO_0.out (fun k_ hk => (⟨hk, hk.2⟩ : _ ∧ k_ ≠ gb219))) (fun _ hk => hk.2) (.int .i64 (l0.length : Int))) (fun _ hk => hk.2) (.int .i64 (l1.length : Int))) (fun _ hk => ⟨hk.1.1.1.1, ⟨hk.1.1.1.2.1, ⟨hk.1.1.1.2.2, ⟨hk.1.1.2, hk.1.2⟩⟩⟩⟩)⟩, ⟨by (with_reducible repeat (first | apply Kd.V_alloc | apply Kd.V_drewN | apply Kd.V_drew)); exact Kd.V_mono (Kd.V_far (p := ⟨gb219, 1, none⟩) (Kd.V_far (p := ⟨gb219, 0, none⟩) (Kd.V_mono HO_1.out (fun k_ hk => (⟨hk, hk.2⟩ : _ ∧ k_ ≠ gb219))) (fun _ hk => hk.2) (.int .i64 (l0.length : Int))) (fun _ hk => hk.2) (.int .i64 (l1.length : Int))) (fun _ hk => ⟨hk.1.1.1.1, ⟨hk.1.1.1.2.1, ⟨hk.1.1.1.2.2, ⟨hk.1.1.2, hk.1.2⟩⟩⟩⟩)⟩, ⟨by (with_reducible repeat (first | apply Kd.R_alloc | apply Kd.R_drewN | apply Kd.R_drew)); exact Kd.R_mono (Kd.R_far (p := ⟨gb219, 1, none⟩) (Kd.R_far (p := ⟨gb219, 0, none⟩) (Kd.R_mono HO_6.out (fun k_ hk => (⟨hk, hk.2⟩ : _ ∧ k_ ≠ gb219))) (fun _ hk => hk.2) (.int .i64 (l0.length : Int))) (fun _ hk => hk.2) (.int .i64 (l1.length : Int))) (fun _ hk => ⟨hk.1.1.1, ⟨hk.1.1.2, hk.1.2⟩⟩)⟩, ⟨by (with_reducible repeat (first | apply Kd.N_alloc | apply Kd.N_drewN | apply Kd.N_drew)); exact Kd.N_mono (Kd.N_far (p := ⟨gb219, 1, none⟩) (Kd.N_far (p := ⟨gb219, 0, none⟩) (Kd.N_mono HO_8.out (fun k_ hk => (⟨hk, hk.2⟩ : _ ∧ k_ ≠ gb219))) (fun _ hk => hk.2) (.int .i64 (l0.length : Int))) (fun _ hk => hk.2) (.int .i64 (l1.length : Int))) (fun _ hk => ⟨hk.1.1.1.1, ⟨hk.1.1.1.2, ⟨hk.1.1.2, hk.1.2⟩⟩⟩)⟩, ⟨by (with_reducible repeat (first | refine blk_drewN ?_ _ | refine blk_drew ?_ | refine blk_alloc ?_ _)); refine blk_far ?_ NB218_219.out _; (with_reducible repeat (first | refine blk_drewN ?_ _ | refine blk_drew ?_ | refine blk_alloc ?_ _)); refine blk_far ?_ NB218_219.out _; (with_reducible repeat (first | refine blk_drewN ?_ _ | refine blk_drew ?_ | refine blk_alloc ?_ _)); exact BK218.out⟩, ⟨by (with_reducible repeat (first | refine blk_drewN ?_ _ | refine blk_drew ?_ | refine blk_alloc ?_ _)); refine blk_put (cs := #[.int .i64 (l0.length : Int), .int .i64 0]) ?_ 1 _ rfl; (with_reducible repeat (first | refine blk_drewN ?_ _ | refine blk_drew ?_ | refine blk_alloc ?_ _)); refine blk_put (cs := #[.int .i64 0, .int .i64 0]) ?_ 0 _ rfl; (with_reducible repeat (first | refine blk_drewN ?_ _ | refine blk_drew ?_ | refine blk_alloc ?_ _)); exact BK219.out⟩, ⟨by repeat (first | (with_reducible first | exact HB.out | apply below_alloc | apply pw_below_drewN | apply below_drew1 | refine below_set ?_ GE218.out | refine below_set ?_ GE219.out) | exact HB.out)⟩⟩
     case rest =>
      clear HC7
      try clear c1
      try clear p2
      try clear q2
      try clear hx2
      try clear c4
      try clear c4b0
      try clear c4b1
      try clear c6
      try clear c6b0
      try clear p6
      try clear c12
      try clear c14
      try clear c14b0
      try clear c16
      try clear c16b0
      try clear c17
      try clear c17b0
      try clear hcz10_0
      try clear hcz10_1
      try clear hcz13_0
      try clear hcz13_1
      try clear hfz10_0
      try clear hfz10_1
      try clear hfz13_0
      try clear hfz13_1
      try clear hx220_0
      try clear hx220_1
      try clear hx221_0
      try clear hx221_1
      try clear p2
      try clear p220
      try clear p221
      try clear q220
      try clear q221
      obtain ⟨kq, x219000_6, x219001_6, HA, HJ6, HO_0, HO_1, HO_6, HO_8, BK218, BK219, HB⟩ := hcut
      cases kq with
      | zero => exact absurd HA.out (by simp [forebearref05_Hunks.j1])
      | succ kj6 =>
       have H := HA.out
       clear HA
       simp only [forebearref05_Hunks.j1] at H
       by_cases c22 : x9_1 < (t214.length : Int)
       ·rw [if_pos c22] at H
        have c22b0 : decide (x9_1 < (t214.length : Int)) = true := decide_eq_true c22
        clear c22
        by_cases c23 : 0 ≤ x9_1
        ·rw [if_pos c23] at H
         have c23b0 : decide (0 ≤ x9_1) = true := decide_eq_true c23
         clear c23
         by_cases c24 : x219000_6 < ((rd_T40 t214 x9_1).f0)
         ·rw [if_pos c24] at H
          have c24b0 : decide (x219000_6 < ((rd_T40 t214 x9_1).f0)) = true := decide_eq_true c24
          clear c24
          by_cases c25 : 0 ≤ x219000_6
          ·rw [if_pos c25] at H
           have c25b0 := eq_true c25
           have c25b1 : decide (0 ≤ x219000_6) = true := decide_eq_true c25
           clear c25
           by_cases c26 : x219000_6 ≤ ((rd_T40 t214 x9_1).f0)
           ·rw [if_pos c26] at H
            have c26b0 := eq_true c26
            have c26b1 : decide (x219000_6 ≤ ((rd_T40 t214 x9_1).f0)) = true := decide_eq_true c26
            clear c26
            by_cases c27 : ((rd_T40 t214 x9_1).f0) ≤ (l0.length : Int)
            ·rw [if_pos c27] at H
             have c27b0 := eq_true c27
             have c27b1 : decide (((rd_T40 t214 x9_1).f0) ≤ (l0.length : Int)) = true := decide_eq_true c27
             clear c27
             obtain ⟨y223, hy223⟩ : ∃ y_ : List ByteArray, y_ = ((l0.take (((rd_T40 t214 x9_1).f0) : Int).toNat).drop (x219000_6 : Int).toNat) := ⟨_, rfl⟩
             replace H : (if 0 ≤ x219001_6 then (if x219001_6 ≤ ((rd_T40 t214 x9_1).f1) then (if ((rd_T40 t214 x9_1).f1) ≤ (l1.length : Int) then (if x8_1.length < 2199023255552 then (forebearref05_Hunks.l0 kj6 l0 l1 t214 (x8_1 ++ [(⟨x219000_6, x219001_6, y223, ((l1.take (((rd_T40 t214 x9_1).f1) : Int).toNat).drop (x219001_6 : Int).toNat)⟩ : S47)]) (wrap64 (x9_1 + 1))) else (none)) else (none)) else (none)) else (none)) = some (r1, r2) := by first | (rw [hy223]; with_reducible exact H) | (have H2_ := (Option.bind_some _ _).symm.trans H; rw [hy223]; with_reducible exact H2_) | (have H2_ := (Option.bind_some _ _).symm.trans H; with_reducible exact H2_) | with_reducible exact H | (rw [hy223]; exact H) | exact H
             have Ny223 := Aside0.mk hy223
             clear hy223
             by_cases c28 : 0 ≤ x219001_6
             ·rw [if_pos c28] at H
              have c28b0 := eq_true c28
              have c28b1 : decide (0 ≤ x219001_6) = true := decide_eq_true c28
              clear c28
              by_cases c29 : x219001_6 ≤ ((rd_T40 t214 x9_1).f1)
              ·rw [if_pos c29] at H
               have c29b0 := eq_true c29
               have c29b1 : decide (x219001_6 ≤ ((rd_T40 t214 x9_1).f1)) = true := decide_eq_true c29
               clear c29
               by_cases c30 : ((rd_T40 t214 x9_1).f1) ≤ (l1.length : Int)
               ·rw [if_pos c30] at H
                have c30b0 := eq_true c30
                have c30b1 : decide (((rd_T40 t214 x9_1).f1) ≤ (l1.length : Int)) = true := decide_eq_true c30
                clear c30
                obtain ⟨y228, hy228⟩ : ∃ y_ : List ByteArray, y_ = ((l1.take (((rd_T40 t214 x9_1).f1) : Int).toNat).drop (x219001_6 : Int).toNat) := ⟨_, rfl⟩
                replace H : (if x8_1.length < 2199023255552 then (forebearref05_Hunks.l0 kj6 l0 l1 t214 (x8_1 ++ [(⟨x219000_6, x219001_6, y223, y228⟩ : S47)]) (wrap64 (x9_1 + 1))) else (none)) = some (r1, r2) := by first | (rw [hy228]; with_reducible exact H) | (have H2_ := (Option.bind_some _ _).symm.trans H; rw [hy228]; with_reducible exact H2_) | (have H2_ := (Option.bind_some _ _).symm.trans H; with_reducible exact H2_) | with_reducible exact H | (rw [hy228]; exact H) | exact H
                have Ny228 := Aside0.mk hy228
                clear hy228
                by_cases c31 : x8_1.length < 2199023255552
                ·rw [if_pos c31] at H
                 have LMc31 := Aside0.mk c31
                 clear c31
                 obtain ⟨y233, hy233⟩ : ∃ y_ : List (S47), y_ = (x8_1 ++ [(⟨x219000_6, x219001_6, y223, y228⟩ : S47)]) := ⟨_, rfl⟩
                 replace H : (forebearref05_Hunks.l0 kj6 l0 l1 t214 y233 (wrap64 (x9_1 + 1))) = some (r1, r2) := by first | (rw [hy233]; with_reducible exact H) | (have H2_ := (Option.bind_some _ _).symm.trans H; rw [hy233]; with_reducible exact H2_) | (have H2_ := (Option.bind_some _ _).symm.trans H; with_reducible exact H2_) | with_reducible exact H | (rw [hy233]; exact H) | exact H
                 have Ny233 := Aside0.mk hy233
                 clear hy233
                 have H' := Aside0.mk H
                 clear H
                 have p222 : 0 ≤ (x9_1 : Int) := of_decide_eq_true (by first | (with_reducible assumption) | assumption)
                 have q222 : x9_1 < (t214.length : Int) := of_decide_eq_true (by first | (with_reducible assumption) | assumption)
                 obtain ⟨ad222, e222, hx222_0, hx222_1⟩ := at_T40 (Kd.R_reads' HO_6.out).2.2 x9_1 p222 q222
                 cases e222
                 replace p222 := eq_true p222
                 replace q222 := eq_true q222
                 have hnb32 := NB219_218.out
                 have hnc32 := NB218_219.out
                 have hcz33_0 : wc.cell? ⟨gb219, 0, none⟩ = some (.int .i64 (l0.length : Int)) := (blk_cell BK219.out 0).trans rfl
                 have hcz33_1 : wc.cell? ⟨gb219, 1, none⟩ = some (.int .i64 (l1.length : Int)) := (blk_cell BK219.out 1).trans rfl
                 have hfz33_0 := blk_frozen BK219.out 0
                 have hfz33_1 := blk_frozen BK219.out 1
                 have hcz34_0 : wc.cell? ⟨gb218, 0, none⟩ = some (.int .i64 x219000_6) := (blk_cell BK218.out 0).trans rfl
                 have hcz34_1 : wc.cell? ⟨gb218, 1, none⟩ = some (.int .i64 x219001_6) := (blk_cell BK218.out 1).trans rfl
                 have hfz34_0 := blk_frozen BK218.out 0
                 have hfz34_1 := blk_frozen BK218.out 1
                 try go_wp2
                 have n0_ : Aside0 (Kd.V Kd.string 9 ((wc.setCell ⟨gb219, 0, none⟩ (.int .i64 ((rd_T40 t214 x9_1).f0))).setCell ⟨gb219, 1, none⟩ (.int .i64 ((rd_T40 t214 x9_1).f1))) w.heap.size (fun k_ => ((P0_ k_ ∨ P1_ k_) ∨ w.heap.size ≤ k_) ∧ some k_ ≠ (.slice (some ad222) t214.length co8 : Value).ownBlock ∧ some k_ ≠ (u8 : Value).ownBlock ∧ k_ ≠ gb218 ∧ k_ ≠ gb219) (.slice A0 l0.length c0) l0) := ⟨by (with_reducible repeat (first | apply Kd.V_alloc | apply Kd.V_drewN | apply Kd.V_drew)); exact Kd.V_mono (Kd.V_far (p := ⟨gb219, 1, none⟩) (Kd.V_far (p := ⟨gb219, 0, none⟩) (Kd.V_mono HO_0.out (fun k_ hk => (⟨hk, hk.2.2.2.2⟩ : _ ∧ k_ ≠ gb219))) (fun _ hk => hk.2) (.int .i64 ((rd_T40 t214 x9_1).f0))) (fun _ hk => hk.2) (.int .i64 ((rd_T40 t214 x9_1).f1))) (fun _ hk => ⟨hk.1.1, ⟨hk.1.2.1, ⟨hk.1.2.2.1, ⟨hk.1.2.2.2.1, hk.1.2.2.2.2⟩⟩⟩⟩)⟩
                 have n1_ : Aside0 (Kd.V Kd.string 9 ((wc.setCell ⟨gb219, 0, none⟩ (.int .i64 ((rd_T40 t214 x9_1).f0))).setCell ⟨gb219, 1, none⟩ (.int .i64 ((rd_T40 t214 x9_1).f1))) w.heap.size (fun k_ => ((P0_ k_ ∨ P1_ k_) ∨ w.heap.size ≤ k_) ∧ some k_ ≠ (.slice (some ad222) t214.length co8 : Value).ownBlock ∧ some k_ ≠ (u8 : Value).ownBlock ∧ k_ ≠ gb218 ∧ k_ ≠ gb219) (.slice A1 l1.length c1) l1) := ⟨by (with_reducible repeat (first | apply Kd.V_alloc | apply Kd.V_drewN | apply Kd.V_drew)); exact Kd.V_mono (Kd.V_far (p := ⟨gb219, 1, none⟩) (Kd.V_far (p := ⟨gb219, 0, none⟩) (Kd.V_mono HO_1.out (fun k_ hk => (⟨hk, hk.2.2.2.2⟩ : _ ∧ k_ ≠ gb219))) (fun _ hk => hk.2) (.int .i64 ((rd_T40 t214 x9_1).f0))) (fun _ hk => hk.2) (.int .i64 ((rd_T40 t214 x9_1).f1))) (fun _ hk => ⟨hk.1.1, ⟨hk.1.2.1, ⟨hk.1.2.2.1, ⟨hk.1.2.2.2.1, hk.1.2.2.2.2⟩⟩⟩⟩)⟩
                 have n2_ : Aside0 (Kd.R k40 40 ((wc.setCell ⟨gb219, 0, none⟩ (.int .i64 ((rd_T40 t214 x9_1).f0))).setCell ⟨gb219, 1, none⟩ (.int .i64 ((rd_T40 t214 x9_1).f1))) w.heap.size (fun k_ => (w.heap.size ≤ k_) ∧ k_ ≠ gb218 ∧ k_ ≠ gb219) (.slice (some ad222) t214.length co8) t214) := ⟨by (with_reducible repeat (first | apply Kd.R_alloc | apply Kd.R_drewN | apply Kd.R_drew)); exact Kd.R_mono (Kd.R_far (p := ⟨gb219, 1, none⟩) (Kd.R_far (p := ⟨gb219, 0, none⟩) (Kd.R_mono HO_6.out (fun k_ hk => (⟨hk, hk.2.2⟩ : _ ∧ k_ ≠ gb219))) (fun _ hk => hk.2) (.int .i64 ((rd_T40 t214 x9_1).f0))) (fun _ hk => hk.2) (.int .i64 ((rd_T40 t214 x9_1).f1))) (fun _ hk => ⟨hk.1.1, ⟨hk.1.2.1, hk.1.2.2⟩⟩)⟩
                 have n3_ : Aside0 (Kd.N k47 47 ((wc.setCell ⟨gb219, 0, none⟩ (.int .i64 ((rd_T40 t214 x9_1).f0))).setCell ⟨gb219, 1, none⟩ (.int .i64 ((rd_T40 t214 x9_1).f1))) w.heap.size (fun k_ => ((P0_ k_ ∨ P1_ k_) ∨ w.heap.size ≤ k_) ∧ some k_ ≠ (.slice (some ad222) t214.length co8 : Value).ownBlock ∧ k_ ≠ gb218 ∧ k_ ≠ gb219) u8 x8_1) := ⟨by (with_reducible repeat (first | apply Kd.N_alloc | apply Kd.N_drewN | apply Kd.N_drew)); exact Kd.N_mono (Kd.N_far (p := ⟨gb219, 1, none⟩) (Kd.N_far (p := ⟨gb219, 0, none⟩) (Kd.N_mono HO_8.out (fun k_ hk => (⟨hk, hk.2.2.2⟩ : _ ∧ k_ ≠ gb219))) (fun _ hk => hk.2) (.int .i64 ((rd_T40 t214 x9_1).f0))) (fun _ hk => hk.2) (.int .i64 ((rd_T40 t214 x9_1).f1))) (fun _ hk => ⟨hk.1.1, ⟨hk.1.2.1, ⟨hk.1.2.2.1, hk.1.2.2.2⟩⟩⟩)⟩
                 have n4_ : Aside0 (((wc.setCell ⟨gb219, 0, none⟩ (.int .i64 ((rd_T40 t214 x9_1).f0))).setCell ⟨gb219, 1, none⟩ (.int .i64 ((rd_T40 t214 x9_1).f1))).heap[gb218]? = some (.cells #[.int .i64 x219000_6, .int .i64 x219001_6] 40 (0, 0))) := ⟨by (with_reducible repeat (first | refine blk_drewN ?_ _ | refine blk_drew ?_ | refine blk_alloc ?_ _)); refine blk_far ?_ NB218_219.out _; (with_reducible repeat (first | refine blk_drewN ?_ _ | refine blk_drew ?_ | refine blk_alloc ?_ _)); refine blk_far ?_ NB218_219.out _; (with_reducible repeat (first | refine blk_drewN ?_ _ | refine blk_drew ?_ | refine blk_alloc ?_ _)); exact BK218.out⟩
                 have n5_ : Aside0 (((wc.setCell ⟨gb219, 0, none⟩ (.int .i64 ((rd_T40 t214 x9_1).f0))).setCell ⟨gb219, 1, none⟩ (.int .i64 ((rd_T40 t214 x9_1).f1))).heap[gb219]? = some (.cells #[.int .i64 ((rd_T40 t214 x9_1).f0), .int .i64 ((rd_T40 t214 x9_1).f1)] 40 (0, 0))) := ⟨by (with_reducible repeat (first | refine blk_drewN ?_ _ | refine blk_drew ?_ | refine blk_alloc ?_ _)); refine blk_put (cs := #[.int .i64 ((rd_T40 t214 x9_1).f0), .int .i64 (l1.length : Int)]) ?_ 1 _ rfl; (with_reducible repeat (first | refine blk_drewN ?_ _ | refine blk_drew ?_ | refine blk_alloc ?_ _)); refine blk_put (cs := #[.int .i64 (l0.length : Int), .int .i64 (l1.length : Int)]) ?_ 0 _ rfl; (with_reducible repeat (first | refine blk_drewN ?_ _ | refine blk_drew ?_ | refine blk_alloc ?_ _)); exact BK219.out⟩
                 have n6_ : Aside0 (Below w.heap.size w ((wc.setCell ⟨gb219, 0, none⟩ (.int .i64 ((rd_T40 t214 x9_1).f0))).setCell ⟨gb219, 1, none⟩ (.int .i64 ((rd_T40 t214 x9_1).f1)))) := ⟨by repeat (first | (with_reducible first | exact HB.out | apply below_alloc | apply pw_below_drewN | apply below_drew1 | refine below_set ?_ GE218.out | refine below_set ?_ GE219.out) | exact HB.out)⟩
                 (try clear HO_0)
                 (try clear HO_1)
                 (try clear HO_6)
                 (try clear HO_8)
                 (try clear BK218)
                 (try clear BK219)
                 (try clear HB)
                 generalize ((wc.setCell ⟨gb219, 0, none⟩ (.int .i64 ((rd_T40 t214 x9_1).f0))).setCell ⟨gb219, 1, none⟩ (.int .i64 ((rd_T40 t214 x9_1).f1))) = w35 at n0_ n1_ n2_ n3_ n4_ n5_ n6_ ⊢
                 have HO_0 := n0_
                 have HO_1 := n1_
                 have HO_6 := n2_
                 have HO_8 := n3_
                 have BK218 := n4_
                 have BK219 := n5_
                 have HB := n6_
                 clear n0_ n1_ n2_ n3_ n4_ n5_ n6_
                 have n0_ := Aside0.mk (Kd.V_drew HO_0.out)
                 have n1_ := Aside0.mk (Kd.V_drew HO_1.out)
                 have n2_ := Aside0.mk (Kd.R_drew HO_6.out)
                 have n3_ := Aside0.mk (Kd.N_drew HO_8.out)
                 have n4_ := Aside0.mk (blk_drew BK218.out)
                 have n5_ := Aside0.mk (blk_drew BK219.out)
                 have n6_ := Aside0.mk (below_drew1 HB.out)
                 clear HO_0
                 clear HO_1
                 clear HO_6
                 clear HO_8
                 clear BK218
                 clear BK219
                 clear HB
                 have HO_0 := n0_
                 have HO_1 := n1_
                 have HO_6 := n2_
                 have HO_8 := n3_
                 have BK218 := n4_
                 have BK219 := n5_
                 have HB := n6_
                 clear n0_ n1_ n2_ n3_ n4_ n5_ n6_
                 have q37 : (((rd_T40 t214 x9_1).f0) : Int) ≤ ((l0.length : Int) : Int) := of_decide_eq_true (by first | (with_reducible assumption) | assumption)
                 obtain ⟨i037, hi037, _, hsz37, _⟩ := info_parts info9
                 have hroom37 : l0.length ≤ c0 := (Kd.V_reads' HO_0.out).2.1
                 have hC37 : Kd.F Kd.string _ _ A0 l0.length l0 := (Kd.V_at (base := w.heap.size) HO_0.out).2.2
                 have ql37 : (x219000_6 : Int) ≤ (((rd_T40 t214 x9_1).f0) : Int) := of_decide_eq_true (by first | (with_reducible assumption) | assumption)
                 have q037 : (0 : Int) ≤ (x219000_6 : Int) := of_decide_eq_true (by first | (with_reducible assumption) | assumption)
                 have hcut37 := cut_mid (P := Try.prog) 22 9 .i64 .i64 Try.underlying22 hi037 1 hsz37 A0 l0.length c0 x219000_6 ((rd_T40 t214 x9_1).f0) q037 ql37 q37 hroom37
                 have hr37 := Kd.F_mid (lo := (x219000_6 : Int).toNat) (hi := (((rd_T40 t214 x9_1).f0) : Int).toNat) (c := c0) hC37 (by omega) (by omega) hroom37
                 obtain ⟨A37, hA37⟩ : ∃ A1, A1 = (if c0 = (x219000_6 : Int).toNat then A0 else (A0 : Option Addr).map (·.add ((x219000_6 : Int).toNat * 1))) := ⟨_, rfl⟩
                 obtain ⟨c37, hc37⟩ : ∃ c1, c1 = c0 - (x219000_6 : Int).toNat := ⟨_, rfl⟩
                 have hy37 : y223.length = (((rd_T40 t214 x9_1).f0) : Int).toNat - (x219000_6 : Int).toNat := (by rw [Ny223.out, List.length_drop, List.length_take] <;> omega)
                 rw [show ((l0).take (((rd_T40 t214 x9_1).f0) : Int).toNat).drop (x219000_6 : Int).toNat = y223 from Ny223.out.symm] at hr37
                 replace hr37 : Kd.F Kd.string _ _ A37 y223.length y223 := (by rw [hA37]; exact hr37)
                 rw [← hy37, ← hA37, ← hc37] at hcut37
                 have HO227 := Aside0.mk (show Kd.V Kd.string 9 _ w.heap.size _ (.slice A37 y223.length c37) y223 from Kd.V_mk (by rw [hy37, hc37]; exact Nat.sub_le_sub_right (Nat.le_trans (by omega) hroom37) _) hr37)
                 have HC227 := Aside0.mk (show y223.length ≤ c37 from by rw [hy37, hc37]; exact Nat.sub_le_sub_right (Nat.le_trans (by omega) hroom37) _)
                 clear hr37 hC37 hroom37 hi037 hsz37 hc37
                 have KY37 := Aside0.mk hy37
                 have KA37 := Aside0.mk hA37
                 clear hy37 hA37
                 replace q37 := eq_true q37
                 have q38 : (((rd_T40 t214 x9_1).f1) : Int) ≤ ((l1.length : Int) : Int) := of_decide_eq_true (by first | (with_reducible assumption) | assumption)
                 obtain ⟨i038, hi038, _, hsz38, _⟩ := info_parts info9
                 have hroom38 : l1.length ≤ c1 := (Kd.V_reads' HO_1.out).2.1
                 have hC38 : Kd.F Kd.string _ _ A1 l1.length l1 := (Kd.V_at (base := w.heap.size) HO_1.out).2.2
                 have ql38 : (x219001_6 : Int) ≤ (((rd_T40 t214 x9_1).f1) : Int) := of_decide_eq_true (by first | (with_reducible assumption) | assumption)
                 have q038 : (0 : Int) ≤ (x219001_6 : Int) := of_decide_eq_true (by first | (with_reducible assumption) | assumption)
                 have hcut38 := cut_mid (P := Try.prog) 22 9 .i64 .i64 Try.underlying22 hi038 1 hsz38 A1 l1.length c1 x219001_6 ((rd_T40 t214 x9_1).f1) q038 ql38 q38 hroom38
                 have hr38 := Kd.F_mid (lo := (x219001_6 : Int).toNat) (hi := (((rd_T40 t214 x9_1).f1) : Int).toNat) (c := c1) hC38 (by omega) (by omega) hroom38
                 obtain ⟨A38, hA38⟩ : ∃ Az_, Az_ = (if c1 = (x219001_6 : Int).toNat then A1 else (A1 : Option Addr).map (·.add ((x219001_6 : Int).toNat * 1))) := ⟨_, rfl⟩
                 obtain ⟨c38, hc38⟩ : ∃ cz_, cz_ = c1 - (x219001_6 : Int).toNat := ⟨_, rfl⟩
                 have hy38 : y228.length = (((rd_T40 t214 x9_1).f1) : Int).toNat - (x219001_6 : Int).toNat := (by rw [Ny228.out, List.length_drop, List.length_take] <;> omega)
                 rw [show ((l1).take (((rd_T40 t214 x9_1).f1) : Int).toNat).drop (x219001_6 : Int).toNat = y228 from Ny228.out.symm] at hr38
                 replace hr38 : Kd.F Kd.string _ _ A38 y228.length y228 := (by rw [hA38]; exact hr38)
                 rw [← hy38, ← hA38, ← hc38] at hcut38
                 have HO232 := Aside0.mk (show Kd.V Kd.string 9 _ w.heap.size _ (.slice A38 y228.length c38) y228 from Kd.V_mk (by rw [hy38, hc38]; exact Nat.sub_le_sub_right (Nat.le_trans (by omega) hroom38) _) hr38)
                 have HC232 := Aside0.mk (show y228.length ≤ c38 from by rw [hy38, hc38]; exact Nat.sub_le_sub_right (Nat.le_trans (by omega) hroom38) _)
                 clear hr38 hC38 hroom38 hi038 hsz38 hc38
                 have KY38 := Aside0.mk hy38
                 have KA38 := Aside0.mk hA38
                 clear hy38 hA38
                 replace q38 := eq_true q38
                 refine start_ (n := 21) (S := fun w' => w'.cell? ⟨gb218, 0, none⟩ = some (.int .i64 x219000_6) ∧ w'.cell? ⟨gb218, 1, none⟩ = some (.int .i64 x219001_6) ∧ w'.cell? ⟨gb219, 0, none⟩ = some (.int .i64 ((rd_T40 t214 x9_1).f0)) ∧ w'.cell? ⟨gb219, 1, none⟩ = some (.int .i64 ((rd_T40 t214 x9_1).f1))) (ds := []) (vb 0 21) (by kernel_rfl) rfl rfl ⟨(blk_cell BK218.out 0).trans rfl, (blk_cell BK218.out 1).trans rfl, (blk_cell BK219.out 0).trans rfl, (blk_cell BK219.out 1).trans rfl⟩ (fun hHeld => ?_); refine with_tabW forebearref05_Hunks.tab15 forebearref05_Hunks.bits15 (fun HT_ HW_ => ?_)
                 generalize w35.drew = w36 at HO_0 HO_1 HO_6 HO_8 BK218 BK219 HB HO227 HO232 hHeld ⊢
                 refine pure_ (i := 0) (N := some 70) (v := ?_) (a' := ?_) (vb 1 21) rfl rfl (any_of HT_.out (by kernel_rfl)) (fun _ _ _ h => h) (Or.inl ⟨by rfl, ?_⟩) ?_ ?_
                 rotate_left
                 ·intro w'
                  go_simp
                  with_reducible rfl
                 rotate_left
                 ·simp only [Act.put, List.setIfInBounds_toArray, List.set_cons_zero, List.set_cons_succ, i64_w, i32_w]
                  rfl
                 refine pure_ (i := 1) (N := some 71) (v := ?_) (a' := ?_) (vb 3 21) rfl rfl (any_of HT_.out (by kernel_rfl)) (fun _ _ _ h => h) (Or.inl ⟨by rfl, ?_⟩) ?_ ?_
                 rotate_left
                 ·intro w'
                  go_simp
                  with_reducible rfl
                 rotate_left
                 ·simp only [Act.put, List.setIfInBounds_toArray, List.set_cons_zero, List.set_cons_succ, i64_w, i32_w]
                  rfl
                 refine pure_ (i := 3) (N := some 73) (v := ?_) (a' := ?_) (vb 11 21) rfl rfl (any_of HT_.out (by kernel_rfl)) (fun _ _ _ h => h) (Or.inl ⟨by rfl, ?_⟩) ?_ ?_
                 rotate_left
                 ·intro w'
                  go_simp
                  with_reducible rfl
                 rotate_left
                 ·simp only [Act.put, List.setIfInBounds_toArray, List.set_cons_zero, List.set_cons_succ, i64_w, i32_w]
                  rfl
                 refine pure_ (i := 5) (N := some 75) (v := ?_) (a' := ?_) (vb 43 21) rfl rfl (any_of HT_.out (by kernel_rfl)) (fun _ _ _ h => h) (Or.inl ⟨by rfl, ?_⟩) ?_ ?_
                 rotate_left
                 ·intro w'
                  go_simp
                  with_reducible rfl
                 rotate_left
                 ·simp only [Act.put, List.setIfInBounds_toArray, List.set_cons_zero, List.set_cons_succ, i64_w, i32_w]
                  rfl
                 refine pure_ (i := 6) (N := some 76) (v := ?_) (a' := ?_) (vb 107 21) rfl rfl (any_of HT_.out (by kernel_rfl)) (fun _ _ _ h => h) (Or.inl ⟨by rfl, ?_⟩) ?_ ?_
                 rotate_left
                 ·intro w'
                  go_simp
                  with_reducible rfl
                 rotate_left
                 ·simp only [Act.put, List.setIfInBounds_toArray, List.set_cons_zero, List.set_cons_succ, i64_w, i32_w]
                  rfl
                 refine pure_ (i := 8) (N := some 78) (v := ?_) (a' := ?_) (vb 363 21) rfl rfl (any_of HT_.out (by kernel_rfl)) (fun _ _ _ h => h) (Or.inl ⟨by rfl, ?_⟩) ?_ ?_
                 rotate_left
                 ·intro w'
                  go_simp
                  with_reducible rfl
                 rotate_left
                 ·simp only [Act.put, List.setIfInBounds_toArray, List.set_cons_zero, List.set_cons_succ, i64_w, i32_w]
                  rfl
                 refine pure_ (i := 11) (N := some 81) (v := ?_) (a' := ?_) (vb 2411 21) rfl rfl (any_of HT_.out (by kernel_rfl)) (fun _ _ _ h => h) (Or.inl ⟨by rfl, ?_⟩) ?_ ?_
                 rotate_left
                 ·intro w'
                  go_simp
                  with_reducible rfl
                 rotate_left
                 ·simp only [Act.put, List.setIfInBounds_toArray, List.set_cons_zero, List.set_cons_succ, i64_w, i32_w]
                  rfl
                 refine pure_ (i := 12) (N := some 82) (v := ?_) (a' := ?_) (vb 6507 21) rfl rfl (any_of HT_.out (by kernel_rfl)) (fun _ _ _ h => h) (Or.inl ⟨by rfl, ?_⟩) ?_ ?_
                 rotate_left
                 ·intro w'
                  go_simp
                  with_reducible rfl
                 rotate_left
                 ·simp only [Act.put, List.setIfInBounds_toArray, List.set_cons_zero, List.set_cons_succ, i64_w, i32_w]
                  rfl
                 refine pure_ (i := 14) (N := some 84) (v := ?_) (a' := ?_) (vb 22891 21) rfl rfl (any_of HT_.out (by kernel_rfl)) (fun _ _ _ h => h) (Or.inl ⟨by rfl, ?_⟩) ?_ ?_
                 rotate_left
                 ·intro w'
                  go_simp
                  with_reducible rfl
                 rotate_left
                 ·simp only [Act.put, List.setIfInBounds_toArray, List.set_cons_zero, List.set_cons_succ, i64_w, i32_w]
                  rfl
                 refine take_ (i := 2) (N := some 72) (v := ?_) (a' := ?_) (vb 22895 21) rfl rfl (take_ofW HT_.out HW_.out (by kernel_rfl)) (fun _ _ _ h => h) (Or.inl ⟨by rfl, ?_⟩) hHeld ?_ ?_
                 rotate_left
                 ·rintro w' ⟨s0, s1, s2, s3⟩
                  go_simp
                  with_reducible rfl
                 rotate_left
                 ·simp only [Act.put, List.setIfInBounds_toArray, List.set_cons_zero, List.set_cons_succ, i64_w, i32_w]
                  rfl
                 refine take_ (i := 4) (N := some 74) (v := ?_) (a' := ?_) (vb 22911 21) rfl rfl (take_ofW HT_.out HW_.out (by kernel_rfl)) (fun _ _ _ h => h) (Or.inl ⟨by rfl, ?_⟩) hHeld ?_ ?_
                 rotate_left
                 ·rintro w' ⟨s0, s1, s2, s3⟩
                  go_simp
                  with_reducible rfl
                 rotate_left
                 ·simp only [Act.put, List.setIfInBounds_toArray, List.set_cons_zero, List.set_cons_succ, i64_w, i32_w]
                  rfl
                 refine take_ (i := 7) (N := some 77) (v := ?_) (a' := ?_) (vb 23039 21) rfl rfl (take_ofW HT_.out HW_.out (by kernel_rfl)) (fun _ _ _ h => h) (Or.inl ⟨by rfl, ?_⟩) hHeld ?_ ?_
                 rotate_left
                 ·rintro w' ⟨s0, s1, s2, s3⟩
                  go_simp
                  with_reducible rfl
                 rotate_left
                 ·simp only [Act.put, List.setIfInBounds_toArray, List.set_cons_zero, List.set_cons_succ, i64_w, i32_w]
                  rfl
                 refine take_ (i := 9) (N := some 79) (v := ?_) (a' := ?_) (vb 23551 21) rfl rfl (take_ofW HT_.out HW_.out (by kernel_rfl)) (fun _ _ _ h => h) (Or.inl ⟨by rfl, ?_⟩) hHeld ?_ ?_
                 rotate_left
                 ·rintro w' ⟨s0, s1, s2, s3⟩
                  go_simp
                  with_reducible rfl
                 rotate_left
                 ·simp only [Act.put, List.setIfInBounds_toArray, List.set_cons_zero, List.set_cons_succ, i64_w, i32_w]
                  rfl
                 refine pure_ (i := 10) (N := some 80) (v := ?_) (a' := ?_) (vb 24575 21) rfl rfl (any_of HT_.out (by kernel_rfl)) (fun _ _ _ h => h) (Or.inl ⟨by rfl, ?_⟩) ?_ ?_
                 rotate_left
                 ·intro w'
                  go_simp
                  with_reducible rfl
                 rotate_left
                 ·simp only [Act.put, List.setIfInBounds_toArray, List.set_cons_zero, List.set_cons_succ, i64_w, i32_w]
                  rfl
                 refine take_ (i := 13) (N := some 83) (v := ?_) (a' := ?_) (vb 32767 21) rfl rfl (take_ofW HT_.out HW_.out (by kernel_rfl)) (fun _ _ _ h => h) (Or.inl ⟨by rfl, ?_⟩) hHeld ?_ ?_
                 rotate_left
                 ·rintro w' ⟨s0, s1, s2, s3⟩
                  go_simp
                  with_reducible rfl
                 rotate_left
                 ·simp only [Act.put, List.setIfInBounds_toArray, List.set_cons_zero, List.set_cons_succ, i64_w, i32_w]
                  rfl
                 refine take_ (i := 15) (N := some 85) (v := ?_) (a' := ?_) (vb 65535 21) rfl rfl (take_ofW HT_.out HW_.out (by kernel_rfl)) (fun _ _ _ h => h) (Or.inl ⟨by rfl, ?_⟩) hHeld ?_ ?_
                 rotate_left
                 ·rintro w' ⟨s0, s1, s2, s3⟩
                  go_simp
                  with_reducible rfl
                 rotate_left
                 ·simp only [Act.put, List.setIfInBounds_toArray, List.set_cons_zero, List.set_cons_succ, i64_w, i32_w]
                  rfl
                 refine pure_ (i := 16) (N := some 86) (v := ?_) (a' := ?_) (vb 131071 21) rfl rfl (any_of HT_.out (by kernel_rfl)) (fun _ _ _ h => h) (Or.inl ⟨by rfl, ?_⟩) ?_ ?_
                 rotate_left
                 ·intro w'
                  go_simp
                  with_reducible rfl
                 rotate_left
                 ·simp only [Act.put, List.setIfInBounds_toArray, List.set_cons_zero, List.set_cons_succ, i64_w, i32_w]
                  rfl
                 refine pure_ (i := 17) (N := some 87) (v := ?_) (a' := ?_) (vb 262143 21) rfl rfl (any_of HT_.out (by kernel_rfl)) (fun _ _ _ h => h) (Or.inl ⟨by rfl, ?_⟩) ?_ ?_
                 rotate_left
                 ·intro w'
                  go_simp
                  with_reducible rfl
                 rotate_left
                 ·simp only [Act.put, List.setIfInBounds_toArray, List.set_cons_zero, List.set_cons_succ, i64_w, i32_w]
                  rfl
                 refine one_ (i := 18) (N := some 88) (vb 524287 21) rfl rfl (one_of HT_.out (by kernel_rfl)) (by decide) (fun K hK => ?_)
                 refine value_ (w1 := ?_) (v := ?_) (by rfl) rfl ?_ ?_
                 rotate_left 2
                 ·go_simp
                  constructor
                  ·rfl
                  ·rfl
                 refine hK.out _ _ ⟨(blk_cell (blk_alloc BK218.out _) 0).trans rfl, (blk_cell (blk_alloc BK218.out _) 1).trans rfl, (blk_cell (blk_alloc BK219.out _) 0).trans rfl, (blk_cell (blk_alloc BK219.out _) 1).trans rfl⟩ (fun hHeld => ?_)
                 clear hK K
                 refine norm_ (a' := ?_) ?_ ?_
                 rotate_left
                 ·show Act.put _ (some 88) _ = _
                  simp only [Act.put, List.setIfInBounds_toArray, List.set_cons_zero, List.set_cons_succ, i64_w, i32_w]
                  rfl
                 refine one_ (i := 19) (N := some 89) (vb 1048575 21) rfl rfl (one_of HT_.out (by kernel_rfl)) (by decide) (fun K hK => ?_)
                 refine Kd.N_append_step k47 (w0 := w) w.heap.size (by rfl) (.tmp 70) (.tmp 88) 34 47 (.agg #[(.int .i64 0), (.int .i64 0), (.slice none 0 0), (.slice none 0 0)]) 64 rfl Try.underlying34 info47 rfl (by decide) (by omega) u8 x8_1 (⟨x219000_6, x219001_6, y223, y228⟩ : S47) [.int .i64 x219000_6, .int .i64 x219001_6, .slice A37 y223.length c37, .slice A38 y228.length c38] (fun k_ => ((P0_ k_ ∨ P1_ k_) ∨ w.heap.size ≤ k_) ∧ some k_ ≠ (.slice (some ad222) t214.length co8 : Value).ownBlock ∧ k_ ≠ gb218 ∧ k_ ≠ gb219) (fun k_ => ((fun k_ => ((P0_ k_ ∨ P1_ k_) ∨ w.heap.size ≤ k_) ∧ some k_ ≠ (.slice (some ad222) t214.length co8 : Value).ownBlock ∧ k_ ≠ gb218 ∧ k_ ≠ gb219)) k_ ∧ some k_ ≠ (u8 : Value).ownBlock) rfl rfl ?aP (fun _ hk => hk) ?aF ?aO ?aB ?aS ?aL ?_
                 (case aP => exact (k47_mkF _ _ (⟨x219000_6, x219001_6, y223, y228⟩ : S47) (Kd.V_reads' (Kd.V_mono (e := 0) (base := 0) (ok' := (fun k_ => ((fun k_ => ((P0_ k_ ∨ P1_ k_) ∨ w.heap.size ≤ k_) ∧ some k_ ≠ (.slice (some ad222) t214.length co8 : Value).ownBlock ∧ k_ ≠ gb218 ∧ k_ ≠ gb219)) k_ ∧ some k_ ≠ (u8 : Value).ownBlock)) (HO227.out) (fun k_ hk => ⟨⟨hk.1, ⟨hk.2.1, ⟨hk.2.2.2.1, hk.2.2.2.2⟩⟩⟩, hk.2.2.1⟩))).2.1 (Kd.V_F (Kd.V_mono (e := 0) (base := 0) (ok' := (fun k_ => ((fun k_ => ((P0_ k_ ∨ P1_ k_) ∨ w.heap.size ≤ k_) ∧ some k_ ≠ (.slice (some ad222) t214.length co8 : Value).ownBlock ∧ k_ ≠ gb218 ∧ k_ ≠ gb219)) k_ ∧ some k_ ≠ (u8 : Value).ownBlock)) (HO227.out) (fun k_ hk => ⟨⟨hk.1, ⟨hk.2.1, ⟨hk.2.2.2.1, hk.2.2.2.2⟩⟩⟩, hk.2.2.1⟩))) (Kd.V_reads' (Kd.V_mono (e := 0) (base := 0) (ok' := (fun k_ => ((fun k_ => ((P0_ k_ ∨ P1_ k_) ∨ w.heap.size ≤ k_) ∧ some k_ ≠ (.slice (some ad222) t214.length co8 : Value).ownBlock ∧ k_ ≠ gb218 ∧ k_ ≠ gb219)) k_ ∧ some k_ ≠ (u8 : Value).ownBlock)) (HO232.out) (fun k_ hk => ⟨⟨hk.1, ⟨hk.2.1, ⟨hk.2.2.2.1, hk.2.2.2.2⟩⟩⟩, hk.2.2.1⟩))).2.1 (Kd.V_F (Kd.V_mono (e := 0) (base := 0) (ok' := (fun k_ => ((fun k_ => ((P0_ k_ ∨ P1_ k_) ∨ w.heap.size ≤ k_) ∧ some k_ ≠ (.slice (some ad222) t214.length co8 : Value).ownBlock ∧ k_ ≠ gb218 ∧ k_ ≠ gb219)) k_ ∧ some k_ ≠ (u8 : Value).ownBlock)) (HO232.out) (fun k_ hk => ⟨⟨hk.1, ⟨hk.2.1, ⟨hk.2.2.2.1, hk.2.2.2.2⟩⟩⟩, hk.2.2.1⟩)))))
                 (case aB => exact (by repeat (first | (with_reducible first | exact HB.out | apply below_alloc | apply pw_below_drewN | apply below_drew1 | refine below_set ?_ GE218.out | refine below_set ?_ GE219.out) | exact HB.out)))
                 (case aF => exact (fun k_ hk => ⟨(.inr (Nat.le_trans (below_size (by repeat (first | (with_reducible first | exact HB.out | apply below_alloc | apply pw_below_drewN | apply below_drew1 | refine below_set ?_ GE218.out | refine below_set ?_ GE219.out) | exact HB.out))) hk)), Kd.fresh' (Kd.R_lt (by (with_reducible repeat (first | apply Kd.R_alloc | apply Kd.R_drewN | apply Kd.R_drew)); exact HO_6.out)) k_ hk, Kd.freshB (g := gb218) (o := .cells #[.int .i64 x219000_6, .int .i64 x219001_6] 40 (0, 0)) (by (with_reducible repeat (first | refine blk_drewN ?_ _ | refine blk_drew ?_ | refine blk_alloc ?_ _)); exact BK218.out) k_ hk, Kd.freshB (g := gb219) (o := .cells #[.int .i64 ((rd_T40 t214 x9_1).f0), .int .i64 ((rd_T40 t214 x9_1).f1)] 40 (0, 0)) (by (with_reducible repeat (first | refine blk_drewN ?_ _ | refine blk_drew ?_ | refine blk_alloc ?_ _)); exact BK219.out) k_ hk⟩))
                 (case aO => exact (by (with_reducible repeat (first | apply Kd.N_alloc | apply Kd.N_drewN | apply Kd.N_drew)); exact HO_8.out))
                 (case aS => exact (below_size (by repeat (first | (with_reducible first | exact HB.out | apply below_alloc | apply pw_below_drewN | apply below_drew1 | refine below_set ?_ GE218.out | refine below_set ?_ GE219.out) | exact HB.out))))
                 (case aL => have := LMc31.out; omega)
                 intro v234 w39 ho hb hg hat
                 rw [← Ny233.out] at ho
                 have n0_ := Aside0.mk (Kd.V_afterv (ok := (fun k_ => ((P0_ k_ ∨ P1_ k_) ∨ w.heap.size ≤ k_) ∧ some k_ ≠ (.slice (some ad222) t214.length co8 : Value).ownBlock ∧ k_ ≠ gb218 ∧ k_ ≠ gb219)) (by (with_reducible repeat (first | apply Kd.V_alloc | apply Kd.V_drewN | apply Kd.V_drew)); exact Kd.V_mono HO_0.out (fun _ hk => ⟨⟨hk.1, ⟨hk.2.1, ⟨hk.2.2.2.1, hk.2.2.2.2⟩⟩⟩, hk.2.2.1⟩)) hg hat)
                 have n1_ := Aside0.mk (Kd.V_afterv (ok := (fun k_ => ((P0_ k_ ∨ P1_ k_) ∨ w.heap.size ≤ k_) ∧ some k_ ≠ (.slice (some ad222) t214.length co8 : Value).ownBlock ∧ k_ ≠ gb218 ∧ k_ ≠ gb219)) (by (with_reducible repeat (first | apply Kd.V_alloc | apply Kd.V_drewN | apply Kd.V_drew)); exact Kd.V_mono HO_1.out (fun _ hk => ⟨⟨hk.1, ⟨hk.2.1, ⟨hk.2.2.2.1, hk.2.2.2.2⟩⟩⟩, hk.2.2.1⟩)) hg hat)
                 have n2_ := Aside0.mk (Kd.R_over' (by (with_reducible repeat (first | apply Kd.R_alloc | apply Kd.R_drewN | apply Kd.R_drew)); exact HO_6.out) (Kd.N_typed (by (with_reducible repeat (first | apply Kd.N_alloc | apply Kd.N_drewN | apply Kd.N_drew)); exact HO_8.out)) (by decide) hg)
                 have n3_ := Aside0.mk (blk_grown (g := gb218) (o := .cells #[.int .i64 x219000_6, .int .i64 x219001_6] 40 (0, 0)) (by (with_reducible repeat (first | refine blk_drewN ?_ _ | refine blk_drew ?_ | refine blk_alloc ?_ _)); exact BK218.out) hg (Kd.N_ne HO_8.out BK218.out (by decide)))
                 have n4_ := Aside0.mk (blk_grown (g := gb219) (o := .cells #[.int .i64 ((rd_T40 t214 x9_1).f0), .int .i64 ((rd_T40 t214 x9_1).f1)] 40 (0, 0)) (by (with_reducible repeat (first | refine blk_drewN ?_ _ | refine blk_drew ?_ | refine blk_alloc ?_ _)); exact BK219.out) hg (Kd.N_ne HO_8.out BK219.out (by decide)))
                 have n5_ := Aside0.mk (Kd.V_afterv (ok := (fun k_ => ((P0_ k_ ∨ P1_ k_) ∨ w.heap.size ≤ k_) ∧ some k_ ≠ (.slice (some ad222) t214.length co8 : Value).ownBlock ∧ k_ ≠ gb218 ∧ k_ ≠ gb219)) (by (with_reducible repeat (first | apply Kd.V_alloc | apply Kd.V_drewN | apply Kd.V_drew)); exact Kd.V_mono HO227.out (fun _ hk => ⟨⟨hk.1, ⟨hk.2.1, ⟨hk.2.2.2.1, hk.2.2.2.2⟩⟩⟩, hk.2.2.1⟩)) hg hat)
                 have n6_ := Aside0.mk (Kd.V_afterv (ok := (fun k_ => ((P0_ k_ ∨ P1_ k_) ∨ w.heap.size ≤ k_) ∧ some k_ ≠ (.slice (some ad222) t214.length co8 : Value).ownBlock ∧ k_ ≠ gb218 ∧ k_ ≠ gb219)) (by (with_reducible repeat (first | apply Kd.V_alloc | apply Kd.V_drewN | apply Kd.V_drew)); exact Kd.V_mono HO232.out (fun _ hk => ⟨⟨hk.1, ⟨hk.2.1, ⟨hk.2.2.2.1, hk.2.2.2.2⟩⟩⟩, hk.2.2.1⟩)) hg hat)
                 have n7_ := Aside0.mk (hb)
                 have n8_ := Aside0.mk (ho)
                 clear HO_0
                 clear HO_1
                 clear HO_6
                 clear BK218
                 clear BK219
                 clear HO227
                 clear HO232
                 clear HB
                 clear HO_8
                 have HO_0 := n0_
                 have HO_1 := n1_
                 have HO_6 := n2_
                 have BK218 := n3_
                 have BK219 := n4_
                 have HO227 := n5_
                 have HO232 := n6_
                 have HB := n7_
                 have HO235 := n8_
                 clear n0_ n1_ n2_ n3_ n4_ n5_ n6_ n7_ n8_
                 clear ho hb hg hat
                 refine hK.out _ _ ⟨(blk_cell BK218.out 0).trans rfl, (blk_cell BK218.out 1).trans rfl, (blk_cell BK219.out 0).trans rfl, (blk_cell BK219.out 1).trans rfl⟩ (fun hHeld => ?_)
                 clear hK K
                 refine norm_ (a' := ?_) ?_ ?_
                 rotate_left
                 ·show Act.put _ (some 89) _ = _
                  simp only [Act.put, List.setIfInBounds_toArray, List.set_cons_zero, List.set_cons_succ, i64_w, i32_w]
                  rfl
                 refine pure_ (i := 20) (N := some 8) (v := ?_) (a' := ?_) (vb 2097151 21) rfl rfl (any_of HT_.out (by kernel_rfl)) (fun _ _ _ h => h) (Or.inl ⟨by rfl, ?_⟩) ?_ ?_
                 rotate_left
                 ·intro w'
                  go_simp
                  with_reducible rfl
                 rotate_left
                 ·simp only [Act.put, List.setIfInBounds_toArray, List.set_cons_zero, List.set_cons_succ, i64_w, i32_w]
                  rfl
                 refine done_ (done_of HT_.out (by kernel_rfl)) ?_
                 try go_wp2
                 go_roundg kj6
                 case measure => have := HK1.out; have := HJ6.out; omega
                 case rel => exact ⟨(y233), (wrap64 (x9_1 + 1)), (by first | rfl | (simp; done) | (simp [*]; done)), H', ⟨by have := HK1.out; have := HJ6.out; omega⟩, ⟨by (with_reducible repeat (first | apply Kd.V_alloc | apply Kd.V_drewN | apply Kd.V_drew)); exact Kd.V_mono HO_0.out (fun _ hk => ⟨hk.1.1, ⟨hk.1.2.1, hk.2⟩⟩)⟩, ⟨by (with_reducible repeat (first | apply Kd.V_alloc | apply Kd.V_drewN | apply Kd.V_drew)); exact Kd.V_mono HO_1.out (fun _ hk => ⟨hk.1.1, ⟨hk.1.2.1, hk.2⟩⟩)⟩, ⟨by (with_reducible repeat (first | apply Kd.R_alloc | apply Kd.R_drewN | apply Kd.R_drew)); exact Kd.R_mono HO_6.out (fun _ hk => hk.1)⟩, ⟨by (with_reducible repeat (first | apply Kd.N_alloc | apply Kd.N_drewN | apply Kd.N_drew)); exact Kd.N_mono HO235.out (fun _ hk => ⟨hk.1, hk.2.1⟩)⟩, ⟨by repeat (first | (with_reducible first | exact HB.out | apply below_alloc | apply pw_below_drewN | apply below_drew1 | refine below_set ?_ GE218.out | refine below_set ?_ GE219.out) | exact HB.out)⟩⟩
                ·rw [if_neg c31] at H
                 exact absurd H (by simp)
               ·rw [if_neg c30] at H
                exact absurd H (by simp)
              ·rw [if_neg c29] at H
               exact absurd H (by simp)
             ·rw [if_neg c28] at H
              exact absurd H (by simp)
            ·rw [if_neg c27] at H
             exact absurd H (by simp)
           ·rw [if_neg c26] at H
            exact absurd H (by simp)
          ·rw [if_neg c25] at H
           exact absurd H (by simp)
         ·rw [if_neg c24] at H
          have c24b0 : decide (x219000_6 < ((rd_T40 t214 x9_1).f0)) = false := decide_eq_false c24
          clear c24
          by_cases c40 : x219001_6 < ((rd_T40 t214 x9_1).f1)
          ·rw [if_pos c40] at H
           have c40b0 : decide (x219001_6 < ((rd_T40 t214 x9_1).f1)) = true := decide_eq_true c40
           clear c40
           by_cases c41 : 0 ≤ x219000_6
           ·rw [if_pos c41] at H
            have c41b0 := eq_true c41
            have c41b1 : decide (0 ≤ x219000_6) = true := decide_eq_true c41
            clear c41
            by_cases c42 : x219000_6 ≤ ((rd_T40 t214 x9_1).f0)
            ·rw [if_pos c42] at H
             have c42b0 := eq_true c42
             have c42b1 : decide (x219000_6 ≤ ((rd_T40 t214 x9_1).f0)) = true := decide_eq_true c42
             clear c42
             by_cases c43 : ((rd_T40 t214 x9_1).f0) ≤ (l0.length : Int)
             ·rw [if_pos c43] at H
              have c43b0 := eq_true c43
              have c43b1 : decide (((rd_T40 t214 x9_1).f0) ≤ (l0.length : Int)) = true := decide_eq_true c43
              clear c43
              obtain ⟨y236, hy236⟩ : ∃ y_ : List ByteArray, y_ = ((l0.take (((rd_T40 t214 x9_1).f0) : Int).toNat).drop (x219000_6 : Int).toNat) := ⟨_, rfl⟩
              replace H : (if 0 ≤ x219001_6 then (if x219001_6 ≤ ((rd_T40 t214 x9_1).f1) then (if ((rd_T40 t214 x9_1).f1) ≤ (l1.length : Int) then (if x8_1.length < 2199023255552 then (forebearref05_Hunks.l0 kj6 l0 l1 t214 (x8_1 ++ [(⟨x219000_6, x219001_6, y236, ((l1.take (((rd_T40 t214 x9_1).f1) : Int).toNat).drop (x219001_6 : Int).toNat)⟩ : S47)]) (wrap64 (x9_1 + 1))) else (none)) else (none)) else (none)) else (none)) = some (r1, r2) := by first | (rw [hy236]; with_reducible exact H) | (have H2_ := (Option.bind_some _ _).symm.trans H; rw [hy236]; with_reducible exact H2_) | (have H2_ := (Option.bind_some _ _).symm.trans H; with_reducible exact H2_) | with_reducible exact H | (rw [hy236]; exact H) | exact H
              have Ny236 := Aside0.mk hy236
              clear hy236
              by_cases c44 : 0 ≤ x219001_6
              ·rw [if_pos c44] at H
               have c44b0 := eq_true c44
               have c44b1 : decide (0 ≤ x219001_6) = true := decide_eq_true c44
               clear c44
               by_cases c45 : x219001_6 ≤ ((rd_T40 t214 x9_1).f1)
               ·rw [if_pos c45] at H
                have c45b0 := eq_true c45
                have c45b1 : decide (x219001_6 ≤ ((rd_T40 t214 x9_1).f1)) = true := decide_eq_true c45
                clear c45
                by_cases c46 : ((rd_T40 t214 x9_1).f1) ≤ (l1.length : Int)
                ·rw [if_pos c46] at H
                 have c46b0 := eq_true c46
                 have c46b1 : decide (((rd_T40 t214 x9_1).f1) ≤ (l1.length : Int)) = true := decide_eq_true c46
                 clear c46
                 obtain ⟨y241, hy241⟩ : ∃ y_ : List ByteArray, y_ = ((l1.take (((rd_T40 t214 x9_1).f1) : Int).toNat).drop (x219001_6 : Int).toNat) := ⟨_, rfl⟩
                 replace H : (if x8_1.length < 2199023255552 then (forebearref05_Hunks.l0 kj6 l0 l1 t214 (x8_1 ++ [(⟨x219000_6, x219001_6, y236, y241⟩ : S47)]) (wrap64 (x9_1 + 1))) else (none)) = some (r1, r2) := by first | (rw [hy241]; with_reducible exact H) | (have H2_ := (Option.bind_some _ _).symm.trans H; rw [hy241]; with_reducible exact H2_) | (have H2_ := (Option.bind_some _ _).symm.trans H; with_reducible exact H2_) | with_reducible exact H | (rw [hy241]; exact H) | exact H
                 have Ny241 := Aside0.mk hy241
                 clear hy241
                 by_cases c47 : x8_1.length < 2199023255552
                 ·rw [if_pos c47] at H
                  have LMc47 := Aside0.mk c47
                  clear c47
                  obtain ⟨y246, hy246⟩ : ∃ y_ : List (S47), y_ = (x8_1 ++ [(⟨x219000_6, x219001_6, y236, y241⟩ : S47)]) := ⟨_, rfl⟩
                  replace H : (forebearref05_Hunks.l0 kj6 l0 l1 t214 y246 (wrap64 (x9_1 + 1))) = some (r1, r2) := by first | (rw [hy246]; with_reducible exact H) | (have H2_ := (Option.bind_some _ _).symm.trans H; rw [hy246]; with_reducible exact H2_) | (have H2_ := (Option.bind_some _ _).symm.trans H; with_reducible exact H2_) | with_reducible exact H | (rw [hy246]; exact H) | exact H
                  have Ny246 := Aside0.mk hy246
                  clear hy246
                  have H' := Aside0.mk H
                  clear H
                  have p222 : 0 ≤ (x9_1 : Int) := of_decide_eq_true (by first | (with_reducible assumption) | assumption)
                  have q222 : x9_1 < (t214.length : Int) := of_decide_eq_true (by first | (with_reducible assumption) | assumption)
                  obtain ⟨ad222, e222, hx222_0, hx222_1⟩ := at_T40 (Kd.R_reads' HO_6.out).2.2 x9_1 p222 q222
                  cases e222
                  replace p222 := eq_true p222
                  replace q222 := eq_true q222
                  have hnb48 := NB219_218.out
                  have hnc48 := NB218_219.out
                  have hcz49_0 : wc.cell? ⟨gb219, 0, none⟩ = some (.int .i64 (l0.length : Int)) := (blk_cell BK219.out 0).trans rfl
                  have hcz49_1 : wc.cell? ⟨gb219, 1, none⟩ = some (.int .i64 (l1.length : Int)) := (blk_cell BK219.out 1).trans rfl
                  have hfz49_0 := blk_frozen BK219.out 0
                  have hfz49_1 := blk_frozen BK219.out 1
                  have hcz50_0 : wc.cell? ⟨gb218, 0, none⟩ = some (.int .i64 x219000_6) := (blk_cell BK218.out 0).trans rfl
                  have hcz50_1 : wc.cell? ⟨gb218, 1, none⟩ = some (.int .i64 x219001_6) := (blk_cell BK218.out 1).trans rfl
                  have hfz50_0 := blk_frozen BK218.out 0
                  have hfz50_1 := blk_frozen BK218.out 1
                  try go_wp2
                  have n0_ : Aside0 (Kd.V Kd.string 9 ((wc.setCell ⟨gb219, 0, none⟩ (.int .i64 ((rd_T40 t214 x9_1).f0))).setCell ⟨gb219, 1, none⟩ (.int .i64 ((rd_T40 t214 x9_1).f1))) w.heap.size (fun k_ => ((P0_ k_ ∨ P1_ k_) ∨ w.heap.size ≤ k_) ∧ some k_ ≠ (.slice (some ad222) t214.length co8 : Value).ownBlock ∧ some k_ ≠ (u8 : Value).ownBlock ∧ k_ ≠ gb218 ∧ k_ ≠ gb219) (.slice A0 l0.length c0) l0) := ⟨by (with_reducible repeat (first | apply Kd.V_alloc | apply Kd.V_drewN | apply Kd.V_drew)); exact Kd.V_mono (Kd.V_far (p := ⟨gb219, 1, none⟩) (Kd.V_far (p := ⟨gb219, 0, none⟩) (Kd.V_mono HO_0.out (fun k_ hk => (⟨hk, hk.2.2.2.2⟩ : _ ∧ k_ ≠ gb219))) (fun _ hk => hk.2) (.int .i64 ((rd_T40 t214 x9_1).f0))) (fun _ hk => hk.2) (.int .i64 ((rd_T40 t214 x9_1).f1))) (fun _ hk => ⟨hk.1.1, ⟨hk.1.2.1, ⟨hk.1.2.2.1, ⟨hk.1.2.2.2.1, hk.1.2.2.2.2⟩⟩⟩⟩)⟩
                  have n1_ : Aside0 (Kd.V Kd.string 9 ((wc.setCell ⟨gb219, 0, none⟩ (.int .i64 ((rd_T40 t214 x9_1).f0))).setCell ⟨gb219, 1, none⟩ (.int .i64 ((rd_T40 t214 x9_1).f1))) w.heap.size (fun k_ => ((P0_ k_ ∨ P1_ k_) ∨ w.heap.size ≤ k_) ∧ some k_ ≠ (.slice (some ad222) t214.length co8 : Value).ownBlock ∧ some k_ ≠ (u8 : Value).ownBlock ∧ k_ ≠ gb218 ∧ k_ ≠ gb219) (.slice A1 l1.length c1) l1) := ⟨by (with_reducible repeat (first | apply Kd.V_alloc | apply Kd.V_drewN | apply Kd.V_drew)); exact Kd.V_mono (Kd.V_far (p := ⟨gb219, 1, none⟩) (Kd.V_far (p := ⟨gb219, 0, none⟩) (Kd.V_mono HO_1.out (fun k_ hk => (⟨hk, hk.2.2.2.2⟩ : _ ∧ k_ ≠ gb219))) (fun _ hk => hk.2) (.int .i64 ((rd_T40 t214 x9_1).f0))) (fun _ hk => hk.2) (.int .i64 ((rd_T40 t214 x9_1).f1))) (fun _ hk => ⟨hk.1.1, ⟨hk.1.2.1, ⟨hk.1.2.2.1, ⟨hk.1.2.2.2.1, hk.1.2.2.2.2⟩⟩⟩⟩)⟩
                  have n2_ : Aside0 (Kd.R k40 40 ((wc.setCell ⟨gb219, 0, none⟩ (.int .i64 ((rd_T40 t214 x9_1).f0))).setCell ⟨gb219, 1, none⟩ (.int .i64 ((rd_T40 t214 x9_1).f1))) w.heap.size (fun k_ => (w.heap.size ≤ k_) ∧ k_ ≠ gb218 ∧ k_ ≠ gb219) (.slice (some ad222) t214.length co8) t214) := ⟨by (with_reducible repeat (first | apply Kd.R_alloc | apply Kd.R_drewN | apply Kd.R_drew)); exact Kd.R_mono (Kd.R_far (p := ⟨gb219, 1, none⟩) (Kd.R_far (p := ⟨gb219, 0, none⟩) (Kd.R_mono HO_6.out (fun k_ hk => (⟨hk, hk.2.2⟩ : _ ∧ k_ ≠ gb219))) (fun _ hk => hk.2) (.int .i64 ((rd_T40 t214 x9_1).f0))) (fun _ hk => hk.2) (.int .i64 ((rd_T40 t214 x9_1).f1))) (fun _ hk => ⟨hk.1.1, ⟨hk.1.2.1, hk.1.2.2⟩⟩)⟩
                  have n3_ : Aside0 (Kd.N k47 47 ((wc.setCell ⟨gb219, 0, none⟩ (.int .i64 ((rd_T40 t214 x9_1).f0))).setCell ⟨gb219, 1, none⟩ (.int .i64 ((rd_T40 t214 x9_1).f1))) w.heap.size (fun k_ => ((P0_ k_ ∨ P1_ k_) ∨ w.heap.size ≤ k_) ∧ some k_ ≠ (.slice (some ad222) t214.length co8 : Value).ownBlock ∧ k_ ≠ gb218 ∧ k_ ≠ gb219) u8 x8_1) := ⟨by (with_reducible repeat (first | apply Kd.N_alloc | apply Kd.N_drewN | apply Kd.N_drew)); exact Kd.N_mono (Kd.N_far (p := ⟨gb219, 1, none⟩) (Kd.N_far (p := ⟨gb219, 0, none⟩) (Kd.N_mono HO_8.out (fun k_ hk => (⟨hk, hk.2.2.2⟩ : _ ∧ k_ ≠ gb219))) (fun _ hk => hk.2) (.int .i64 ((rd_T40 t214 x9_1).f0))) (fun _ hk => hk.2) (.int .i64 ((rd_T40 t214 x9_1).f1))) (fun _ hk => ⟨hk.1.1, ⟨hk.1.2.1, ⟨hk.1.2.2.1, hk.1.2.2.2⟩⟩⟩)⟩
                  have n4_ : Aside0 (((wc.setCell ⟨gb219, 0, none⟩ (.int .i64 ((rd_T40 t214 x9_1).f0))).setCell ⟨gb219, 1, none⟩ (.int .i64 ((rd_T40 t214 x9_1).f1))).heap[gb218]? = some (.cells #[.int .i64 x219000_6, .int .i64 x219001_6] 40 (0, 0))) := ⟨by (with_reducible repeat (first | refine blk_drewN ?_ _ | refine blk_drew ?_ | refine blk_alloc ?_ _)); refine blk_far ?_ NB218_219.out _; (with_reducible repeat (first | refine blk_drewN ?_ _ | refine blk_drew ?_ | refine blk_alloc ?_ _)); refine blk_far ?_ NB218_219.out _; (with_reducible repeat (first | refine blk_drewN ?_ _ | refine blk_drew ?_ | refine blk_alloc ?_ _)); exact BK218.out⟩
                  have n5_ : Aside0 (((wc.setCell ⟨gb219, 0, none⟩ (.int .i64 ((rd_T40 t214 x9_1).f0))).setCell ⟨gb219, 1, none⟩ (.int .i64 ((rd_T40 t214 x9_1).f1))).heap[gb219]? = some (.cells #[.int .i64 ((rd_T40 t214 x9_1).f0), .int .i64 ((rd_T40 t214 x9_1).f1)] 40 (0, 0))) := ⟨by (with_reducible repeat (first | refine blk_drewN ?_ _ | refine blk_drew ?_ | refine blk_alloc ?_ _)); refine blk_put (cs := #[.int .i64 ((rd_T40 t214 x9_1).f0), .int .i64 (l1.length : Int)]) ?_ 1 _ rfl; (with_reducible repeat (first | refine blk_drewN ?_ _ | refine blk_drew ?_ | refine blk_alloc ?_ _)); refine blk_put (cs := #[.int .i64 (l0.length : Int), .int .i64 (l1.length : Int)]) ?_ 0 _ rfl; (with_reducible repeat (first | refine blk_drewN ?_ _ | refine blk_drew ?_ | refine blk_alloc ?_ _)); exact BK219.out⟩
                  have n6_ : Aside0 (Below w.heap.size w ((wc.setCell ⟨gb219, 0, none⟩ (.int .i64 ((rd_T40 t214 x9_1).f0))).setCell ⟨gb219, 1, none⟩ (.int .i64 ((rd_T40 t214 x9_1).f1)))) := ⟨by repeat (first | (with_reducible first | exact HB.out | apply below_alloc | apply pw_below_drewN | apply below_drew1 | refine below_set ?_ GE218.out | refine below_set ?_ GE219.out) | exact HB.out)⟩
                  (try clear HO_0)
                  (try clear HO_1)
                  (try clear HO_6)
                  (try clear HO_8)
                  (try clear BK218)
                  (try clear BK219)
                  (try clear HB)
                  generalize ((wc.setCell ⟨gb219, 0, none⟩ (.int .i64 ((rd_T40 t214 x9_1).f0))).setCell ⟨gb219, 1, none⟩ (.int .i64 ((rd_T40 t214 x9_1).f1))) = w51 at n0_ n1_ n2_ n3_ n4_ n5_ n6_ ⊢
                  have HO_0 := n0_
                  have HO_1 := n1_
                  have HO_6 := n2_
                  have HO_8 := n3_
                  have BK218 := n4_
                  have BK219 := n5_
                  have HB := n6_
                  clear n0_ n1_ n2_ n3_ n4_ n5_ n6_
                  have n0_ := Aside0.mk (Kd.V_drew HO_0.out)
                  have n1_ := Aside0.mk (Kd.V_drew HO_1.out)
                  have n2_ := Aside0.mk (Kd.R_drew HO_6.out)
                  have n3_ := Aside0.mk (Kd.N_drew HO_8.out)
                  have n4_ := Aside0.mk (blk_drew BK218.out)
                  have n5_ := Aside0.mk (blk_drew BK219.out)
                  have n6_ := Aside0.mk (below_drew1 HB.out)
                  clear HO_0
                  clear HO_1
                  clear HO_6
                  clear HO_8
                  clear BK218
                  clear BK219
                  clear HB
                  have HO_0 := n0_
                  have HO_1 := n1_
                  have HO_6 := n2_
                  have HO_8 := n3_
                  have BK218 := n4_
                  have BK219 := n5_
                  have HB := n6_
                  clear n0_ n1_ n2_ n3_ n4_ n5_ n6_
                  have q53 : (((rd_T40 t214 x9_1).f0) : Int) ≤ ((l0.length : Int) : Int) := of_decide_eq_true (by first | (with_reducible assumption) | assumption)
                  obtain ⟨i053, hi053, _, hsz53, _⟩ := info_parts info9
                  have hroom53 : l0.length ≤ c0 := (Kd.V_reads' HO_0.out).2.1
                  have hC53 : Kd.F Kd.string _ _ A0 l0.length l0 := (Kd.V_at (base := w.heap.size) HO_0.out).2.2
                  have ql53 : (x219000_6 : Int) ≤ (((rd_T40 t214 x9_1).f0) : Int) := of_decide_eq_true (by first | (with_reducible assumption) | assumption)
                  have q053 : (0 : Int) ≤ (x219000_6 : Int) := of_decide_eq_true (by first | (with_reducible assumption) | assumption)
                  have hcut53 := cut_mid (P := Try.prog) 22 9 .i64 .i64 Try.underlying22 hi053 1 hsz53 A0 l0.length c0 x219000_6 ((rd_T40 t214 x9_1).f0) q053 ql53 q53 hroom53
                  have hr53 := Kd.F_mid (lo := (x219000_6 : Int).toNat) (hi := (((rd_T40 t214 x9_1).f0) : Int).toNat) (c := c0) hC53 (by omega) (by omega) hroom53
                  obtain ⟨A53, hA53⟩ : ∃ A1, A1 = (if c0 = (x219000_6 : Int).toNat then A0 else (A0 : Option Addr).map (·.add ((x219000_6 : Int).toNat * 1))) := ⟨_, rfl⟩
                  obtain ⟨c53, hc53⟩ : ∃ c1, c1 = c0 - (x219000_6 : Int).toNat := ⟨_, rfl⟩
                  have hy53 : y236.length = (((rd_T40 t214 x9_1).f0) : Int).toNat - (x219000_6 : Int).toNat := (by rw [Ny236.out, List.length_drop, List.length_take] <;> omega)
                  rw [show ((l0).take (((rd_T40 t214 x9_1).f0) : Int).toNat).drop (x219000_6 : Int).toNat = y236 from Ny236.out.symm] at hr53
                  replace hr53 : Kd.F Kd.string _ _ A53 y236.length y236 := (by rw [hA53]; exact hr53)
                  rw [← hy53, ← hA53, ← hc53] at hcut53
                  have HO240 := Aside0.mk (show Kd.V Kd.string 9 _ w.heap.size _ (.slice A53 y236.length c53) y236 from Kd.V_mk (by rw [hy53, hc53]; exact Nat.sub_le_sub_right (Nat.le_trans (by omega) hroom53) _) hr53)
                  have HC240 := Aside0.mk (show y236.length ≤ c53 from by rw [hy53, hc53]; exact Nat.sub_le_sub_right (Nat.le_trans (by omega) hroom53) _)
                  clear hr53 hC53 hroom53 hi053 hsz53 hc53
                  have KY53 := Aside0.mk hy53
                  have KA53 := Aside0.mk hA53
                  clear hy53 hA53
                  replace q53 := eq_true q53
                  have q54 : (((rd_T40 t214 x9_1).f1) : Int) ≤ ((l1.length : Int) : Int) := of_decide_eq_true (by first | (with_reducible assumption) | assumption)
                  obtain ⟨i054, hi054, _, hsz54, _⟩ := info_parts info9
                  have hroom54 : l1.length ≤ c1 := (Kd.V_reads' HO_1.out).2.1
                  have hC54 : Kd.F Kd.string _ _ A1 l1.length l1 := (Kd.V_at (base := w.heap.size) HO_1.out).2.2
                  have ql54 : (x219001_6 : Int) ≤ (((rd_T40 t214 x9_1).f1) : Int) := of_decide_eq_true (by first | (with_reducible assumption) | assumption)
                  have q054 : (0 : Int) ≤ (x219001_6 : Int) := of_decide_eq_true (by first | (with_reducible assumption) | assumption)
                  have hcut54 := cut_mid (P := Try.prog) 22 9 .i64 .i64 Try.underlying22 hi054 1 hsz54 A1 l1.length c1 x219001_6 ((rd_T40 t214 x9_1).f1) q054 ql54 q54 hroom54
                  have hr54 := Kd.F_mid (lo := (x219001_6 : Int).toNat) (hi := (((rd_T40 t214 x9_1).f1) : Int).toNat) (c := c1) hC54 (by omega) (by omega) hroom54
                  obtain ⟨A54, hA54⟩ : ∃ Az_, Az_ = (if c1 = (x219001_6 : Int).toNat then A1 else (A1 : Option Addr).map (·.add ((x219001_6 : Int).toNat * 1))) := ⟨_, rfl⟩
                  obtain ⟨c54, hc54⟩ : ∃ cz_, cz_ = c1 - (x219001_6 : Int).toNat := ⟨_, rfl⟩
                  have hy54 : y241.length = (((rd_T40 t214 x9_1).f1) : Int).toNat - (x219001_6 : Int).toNat := (by rw [Ny241.out, List.length_drop, List.length_take] <;> omega)
                  rw [show ((l1).take (((rd_T40 t214 x9_1).f1) : Int).toNat).drop (x219001_6 : Int).toNat = y241 from Ny241.out.symm] at hr54
                  replace hr54 : Kd.F Kd.string _ _ A54 y241.length y241 := (by rw [hA54]; exact hr54)
                  rw [← hy54, ← hA54, ← hc54] at hcut54
                  have HO245 := Aside0.mk (show Kd.V Kd.string 9 _ w.heap.size _ (.slice A54 y241.length c54) y241 from Kd.V_mk (by rw [hy54, hc54]; exact Nat.sub_le_sub_right (Nat.le_trans (by omega) hroom54) _) hr54)
                  have HC245 := Aside0.mk (show y241.length ≤ c54 from by rw [hy54, hc54]; exact Nat.sub_le_sub_right (Nat.le_trans (by omega) hroom54) _)
                  clear hr54 hC54 hroom54 hi054 hsz54 hc54
                  have KY54 := Aside0.mk hy54
                  have KA54 := Aside0.mk hA54
                  clear hy54 hA54
                  replace q54 := eq_true q54
                  refine start_ (n := 21) (S := fun w' => w'.cell? ⟨gb218, 0, none⟩ = some (.int .i64 x219000_6) ∧ w'.cell? ⟨gb218, 1, none⟩ = some (.int .i64 x219001_6) ∧ w'.cell? ⟨gb219, 0, none⟩ = some (.int .i64 ((rd_T40 t214 x9_1).f0)) ∧ w'.cell? ⟨gb219, 1, none⟩ = some (.int .i64 ((rd_T40 t214 x9_1).f1))) (ds := []) (vb 0 21) (by kernel_rfl) rfl rfl ⟨(blk_cell BK218.out 0).trans rfl, (blk_cell BK218.out 1).trans rfl, (blk_cell BK219.out 0).trans rfl, (blk_cell BK219.out 1).trans rfl⟩ (fun hHeld => ?_); refine with_tabW forebearref05_Hunks.tab15 forebearref05_Hunks.bits15 (fun HT_ HW_ => ?_)
                  generalize w51.drew = w52 at HO_0 HO_1 HO_6 HO_8 BK218 BK219 HB HO240 HO245 hHeld ⊢
                  refine pure_ (i := 0) (N := some 70) (v := ?_) (a' := ?_) (vb 1 21) rfl rfl (any_of HT_.out (by kernel_rfl)) (fun _ _ _ h => h) (Or.inl ⟨by rfl, ?_⟩) ?_ ?_
                  rotate_left
                  ·intro w'
                   go_simp
                   with_reducible rfl
                  rotate_left
                  ·simp only [Act.put, List.setIfInBounds_toArray, List.set_cons_zero, List.set_cons_succ, i64_w, i32_w]
                   rfl
                  refine pure_ (i := 1) (N := some 71) (v := ?_) (a' := ?_) (vb 3 21) rfl rfl (any_of HT_.out (by kernel_rfl)) (fun _ _ _ h => h) (Or.inl ⟨by rfl, ?_⟩) ?_ ?_
                  rotate_left
                  ·intro w'
                   go_simp
                   with_reducible rfl
                  rotate_left
                  ·simp only [Act.put, List.setIfInBounds_toArray, List.set_cons_zero, List.set_cons_succ, i64_w, i32_w]
                   rfl
                  refine pure_ (i := 3) (N := some 73) (v := ?_) (a' := ?_) (vb 11 21) rfl rfl (any_of HT_.out (by kernel_rfl)) (fun _ _ _ h => h) (Or.inl ⟨by rfl, ?_⟩) ?_ ?_
                  rotate_left
                  ·intro w'
                   go_simp
                   with_reducible rfl
                  rotate_left
                  ·simp only [Act.put, List.setIfInBounds_toArray, List.set_cons_zero, List.set_cons_succ, i64_w, i32_w]
                   rfl
                  refine pure_ (i := 5) (N := some 75) (v := ?_) (a' := ?_) (vb 43 21) rfl rfl (any_of HT_.out (by kernel_rfl)) (fun _ _ _ h => h) (Or.inl ⟨by rfl, ?_⟩) ?_ ?_
                  rotate_left
                  ·intro w'
                   go_simp
                   with_reducible rfl
                  rotate_left
                  ·simp only [Act.put, List.setIfInBounds_toArray, List.set_cons_zero, List.set_cons_succ, i64_w, i32_w]
                   rfl
                  refine pure_ (i := 6) (N := some 76) (v := ?_) (a' := ?_) (vb 107 21) rfl rfl (any_of HT_.out (by kernel_rfl)) (fun _ _ _ h => h) (Or.inl ⟨by rfl, ?_⟩) ?_ ?_
                  rotate_left
                  ·intro w'
                   go_simp
                   with_reducible rfl
                  rotate_left
                  ·simp only [Act.put, List.setIfInBounds_toArray, List.set_cons_zero, List.set_cons_succ, i64_w, i32_w]
                   rfl
                  refine pure_ (i := 8) (N := some 78) (v := ?_) (a' := ?_) (vb 363 21) rfl rfl (any_of HT_.out (by kernel_rfl)) (fun _ _ _ h => h) (Or.inl ⟨by rfl, ?_⟩) ?_ ?_
                  rotate_left
                  ·intro w'
                   go_simp
                   with_reducible rfl
                  rotate_left
                  ·simp only [Act.put, List.setIfInBounds_toArray, List.set_cons_zero, List.set_cons_succ, i64_w, i32_w]
                   rfl
                  refine pure_ (i := 11) (N := some 81) (v := ?_) (a' := ?_) (vb 2411 21) rfl rfl (any_of HT_.out (by kernel_rfl)) (fun _ _ _ h => h) (Or.inl ⟨by rfl, ?_⟩) ?_ ?_
                  rotate_left
                  ·intro w'
                   go_simp
                   with_reducible rfl
                  rotate_left
                  ·simp only [Act.put, List.setIfInBounds_toArray, List.set_cons_zero, List.set_cons_succ, i64_w, i32_w]
                   rfl
                  refine pure_ (i := 12) (N := some 82) (v := ?_) (a' := ?_) (vb 6507 21) rfl rfl (any_of HT_.out (by kernel_rfl)) (fun _ _ _ h => h) (Or.inl ⟨by rfl, ?_⟩) ?_ ?_
                  rotate_left
                  ·intro w'
                   go_simp
                   with_reducible rfl
                  rotate_left
                  ·simp only [Act.put, List.setIfInBounds_toArray, List.set_cons_zero, List.set_cons_succ, i64_w, i32_w]
                   rfl
                  refine pure_ (i := 14) (N := some 84) (v := ?_) (a' := ?_) (vb 22891 21) rfl rfl (any_of HT_.out (by kernel_rfl)) (fun _ _ _ h => h) (Or.inl ⟨by rfl, ?_⟩) ?_ ?_
                  rotate_left
                  ·intro w'
                   go_simp
                   with_reducible rfl
                  rotate_left
                  ·simp only [Act.put, List.setIfInBounds_toArray, List.set_cons_zero, List.set_cons_succ, i64_w, i32_w]
                   rfl
                  refine take_ (i := 2) (N := some 72) (v := ?_) (a' := ?_) (vb 22895 21) rfl rfl (take_ofW HT_.out HW_.out (by kernel_rfl)) (fun _ _ _ h => h) (Or.inl ⟨by rfl, ?_⟩) hHeld ?_ ?_
                  rotate_left
                  ·rintro w' ⟨s0, s1, s2, s3⟩
                   go_simp
                   with_reducible rfl
                  rotate_left
                  ·simp only [Act.put, List.setIfInBounds_toArray, List.set_cons_zero, List.set_cons_succ, i64_w, i32_w]
                   rfl
                  refine take_ (i := 4) (N := some 74) (v := ?_) (a' := ?_) (vb 22911 21) rfl rfl (take_ofW HT_.out HW_.out (by kernel_rfl)) (fun _ _ _ h => h) (Or.inl ⟨by rfl, ?_⟩) hHeld ?_ ?_
                  rotate_left
                  ·rintro w' ⟨s0, s1, s2, s3⟩
                   go_simp
                   with_reducible rfl
                  rotate_left
                  ·simp only [Act.put, List.setIfInBounds_toArray, List.set_cons_zero, List.set_cons_succ, i64_w, i32_w]
                   rfl
                  refine take_ (i := 7) (N := some 77) (v := ?_) (a' := ?_) (vb 23039 21) rfl rfl (take_ofW HT_.out HW_.out (by kernel_rfl)) (fun _ _ _ h => h) (Or.inl ⟨by rfl, ?_⟩) hHeld ?_ ?_
                  rotate_left
                  ·rintro w' ⟨s0, s1, s2, s3⟩
                   go_simp
                   with_reducible rfl
                  rotate_left
                  ·simp only [Act.put, List.setIfInBounds_toArray, List.set_cons_zero, List.set_cons_succ, i64_w, i32_w]
                   rfl
                  refine take_ (i := 9) (N := some 79) (v := ?_) (a' := ?_) (vb 23551 21) rfl rfl (take_ofW HT_.out HW_.out (by kernel_rfl)) (fun _ _ _ h => h) (Or.inl ⟨by rfl, ?_⟩) hHeld ?_ ?_
                  rotate_left
                  ·rintro w' ⟨s0, s1, s2, s3⟩
                   go_simp
                   with_reducible rfl
                  rotate_left
                  ·simp only [Act.put, List.setIfInBounds_toArray, List.set_cons_zero, List.set_cons_succ, i64_w, i32_w]
                   rfl
                  refine pure_ (i := 10) (N := some 80) (v := ?_) (a' := ?_) (vb 24575 21) rfl rfl (any_of HT_.out (by kernel_rfl)) (fun _ _ _ h => h) (Or.inl ⟨by rfl, ?_⟩) ?_ ?_
                  rotate_left
                  ·intro w'
                   go_simp
                   with_reducible rfl
                  rotate_left
                  ·simp only [Act.put, List.setIfInBounds_toArray, List.set_cons_zero, List.set_cons_succ, i64_w, i32_w]
                   rfl
                  refine take_ (i := 13) (N := some 83) (v := ?_) (a' := ?_) (vb 32767 21) rfl rfl (take_ofW HT_.out HW_.out (by kernel_rfl)) (fun _ _ _ h => h) (Or.inl ⟨by rfl, ?_⟩) hHeld ?_ ?_
                  rotate_left
                  ·rintro w' ⟨s0, s1, s2, s3⟩
                   go_simp
                   with_reducible rfl
                  rotate_left
                  ·simp only [Act.put, List.setIfInBounds_toArray, List.set_cons_zero, List.set_cons_succ, i64_w, i32_w]
                   rfl
                  refine take_ (i := 15) (N := some 85) (v := ?_) (a' := ?_) (vb 65535 21) rfl rfl (take_ofW HT_.out HW_.out (by kernel_rfl)) (fun _ _ _ h => h) (Or.inl ⟨by rfl, ?_⟩) hHeld ?_ ?_
                  rotate_left
                  ·rintro w' ⟨s0, s1, s2, s3⟩
                   go_simp
                   with_reducible rfl
                  rotate_left
                  ·simp only [Act.put, List.setIfInBounds_toArray, List.set_cons_zero, List.set_cons_succ, i64_w, i32_w]
                   rfl
                  refine pure_ (i := 16) (N := some 86) (v := ?_) (a' := ?_) (vb 131071 21) rfl rfl (any_of HT_.out (by kernel_rfl)) (fun _ _ _ h => h) (Or.inl ⟨by rfl, ?_⟩) ?_ ?_
                  rotate_left
                  ·intro w'
                   go_simp
                   with_reducible rfl
                  rotate_left
                  ·simp only [Act.put, List.setIfInBounds_toArray, List.set_cons_zero, List.set_cons_succ, i64_w, i32_w]
                   rfl
                  refine pure_ (i := 17) (N := some 87) (v := ?_) (a' := ?_) (vb 262143 21) rfl rfl (any_of HT_.out (by kernel_rfl)) (fun _ _ _ h => h) (Or.inl ⟨by rfl, ?_⟩) ?_ ?_
                  rotate_left
                  ·intro w'
                   go_simp
                   with_reducible rfl
                  rotate_left
                  ·simp only [Act.put, List.setIfInBounds_toArray, List.set_cons_zero, List.set_cons_succ, i64_w, i32_w]
                   rfl
                  refine one_ (i := 18) (N := some 88) (vb 524287 21) rfl rfl (one_of HT_.out (by kernel_rfl)) (by decide) (fun K hK => ?_)
                  refine value_ (w1 := ?_) (v := ?_) (by rfl) rfl ?_ ?_
                  rotate_left 2
                  ·go_simp
                   constructor
                   ·rfl
                   ·rfl
                  refine hK.out _ _ ⟨(blk_cell (blk_alloc BK218.out _) 0).trans rfl, (blk_cell (blk_alloc BK218.out _) 1).trans rfl, (blk_cell (blk_alloc BK219.out _) 0).trans rfl, (blk_cell (blk_alloc BK219.out _) 1).trans rfl⟩ (fun hHeld => ?_)
                  clear hK K
                  refine norm_ (a' := ?_) ?_ ?_
                  rotate_left
                  ·show Act.put _ (some 88) _ = _
                   simp only [Act.put, List.setIfInBounds_toArray, List.set_cons_zero, List.set_cons_succ, i64_w, i32_w]
                   rfl
                  refine one_ (i := 19) (N := some 89) (vb 1048575 21) rfl rfl (one_of HT_.out (by kernel_rfl)) (by decide) (fun K hK => ?_)
                  refine Kd.N_append_step k47 (w0 := w) w.heap.size (by rfl) (.tmp 70) (.tmp 88) 34 47 (.agg #[(.int .i64 0), (.int .i64 0), (.slice none 0 0), (.slice none 0 0)]) 64 rfl Try.underlying34 info47 rfl (by decide) (by omega) u8 x8_1 (⟨x219000_6, x219001_6, y236, y241⟩ : S47) [.int .i64 x219000_6, .int .i64 x219001_6, .slice A53 y236.length c53, .slice A54 y241.length c54] (fun k_ => ((P0_ k_ ∨ P1_ k_) ∨ w.heap.size ≤ k_) ∧ some k_ ≠ (.slice (some ad222) t214.length co8 : Value).ownBlock ∧ k_ ≠ gb218 ∧ k_ ≠ gb219) (fun k_ => ((fun k_ => ((P0_ k_ ∨ P1_ k_) ∨ w.heap.size ≤ k_) ∧ some k_ ≠ (.slice (some ad222) t214.length co8 : Value).ownBlock ∧ k_ ≠ gb218 ∧ k_ ≠ gb219)) k_ ∧ some k_ ≠ (u8 : Value).ownBlock) rfl rfl ?aP (fun _ hk => hk) ?aF ?aO ?aB ?aS ?aL ?_
                  (case aP => exact (k47_mkF _ _ (⟨x219000_6, x219001_6, y236, y241⟩ : S47) (Kd.V_reads' (Kd.V_mono (e := 0) (base := 0) (ok' := (fun k_ => ((fun k_ => ((P0_ k_ ∨ P1_ k_) ∨ w.heap.size ≤ k_) ∧ some k_ ≠ (.slice (some ad222) t214.length co8 : Value).ownBlock ∧ k_ ≠ gb218 ∧ k_ ≠ gb219)) k_ ∧ some k_ ≠ (u8 : Value).ownBlock)) (HO240.out) (fun k_ hk => ⟨⟨hk.1, ⟨hk.2.1, ⟨hk.2.2.2.1, hk.2.2.2.2⟩⟩⟩, hk.2.2.1⟩))).2.1 (Kd.V_F (Kd.V_mono (e := 0) (base := 0) (ok' := (fun k_ => ((fun k_ => ((P0_ k_ ∨ P1_ k_) ∨ w.heap.size ≤ k_) ∧ some k_ ≠ (.slice (some ad222) t214.length co8 : Value).ownBlock ∧ k_ ≠ gb218 ∧ k_ ≠ gb219)) k_ ∧ some k_ ≠ (u8 : Value).ownBlock)) (HO240.out) (fun k_ hk => ⟨⟨hk.1, ⟨hk.2.1, ⟨hk.2.2.2.1, hk.2.2.2.2⟩⟩⟩, hk.2.2.1⟩))) (Kd.V_reads' (Kd.V_mono (e := 0) (base := 0) (ok' := (fun k_ => ((fun k_ => ((P0_ k_ ∨ P1_ k_) ∨ w.heap.size ≤ k_) ∧ some k_ ≠ (.slice (some ad222) t214.length co8 : Value).ownBlock ∧ k_ ≠ gb218 ∧ k_ ≠ gb219)) k_ ∧ some k_ ≠ (u8 : Value).ownBlock)) (HO245.out) (fun k_ hk => ⟨⟨hk.1, ⟨hk.2.1, ⟨hk.2.2.2.1, hk.2.2.2.2⟩⟩⟩, hk.2.2.1⟩))).2.1 (Kd.V_F (Kd.V_mono (e := 0) (base := 0) (ok' := (fun k_ => ((fun k_ => ((P0_ k_ ∨ P1_ k_) ∨ w.heap.size ≤ k_) ∧ some k_ ≠ (.slice (some ad222) t214.length co8 : Value).ownBlock ∧ k_ ≠ gb218 ∧ k_ ≠ gb219)) k_ ∧ some k_ ≠ (u8 : Value).ownBlock)) (HO245.out) (fun k_ hk => ⟨⟨hk.1, ⟨hk.2.1, ⟨hk.2.2.2.1, hk.2.2.2.2⟩⟩⟩, hk.2.2.1⟩)))))
                  (case aB => exact (by repeat (first | (with_reducible first | exact HB.out | apply below_alloc | apply pw_below_drewN | apply below_drew1 | refine below_set ?_ GE218.out | refine below_set ?_ GE219.out) | exact HB.out)))
                  (case aF => exact (fun k_ hk => ⟨(.inr (Nat.le_trans (below_size (by repeat (first | (with_reducible first | exact HB.out | apply below_alloc | apply pw_below_drewN | apply below_drew1 | refine below_set ?_ GE218.out | refine below_set ?_ GE219.out) | exact HB.out))) hk)), Kd.fresh' (Kd.R_lt (by (with_reducible repeat (first | apply Kd.R_alloc | apply Kd.R_drewN | apply Kd.R_drew)); exact HO_6.out)) k_ hk, Kd.freshB (g := gb218) (o := .cells #[.int .i64 x219000_6, .int .i64 x219001_6] 40 (0, 0)) (by (with_reducible repeat (first | refine blk_drewN ?_ _ | refine blk_drew ?_ | refine blk_alloc ?_ _)); exact BK218.out) k_ hk, Kd.freshB (g := gb219) (o := .cells #[.int .i64 ((rd_T40 t214 x9_1).f0), .int .i64 ((rd_T40 t214 x9_1).f1)] 40 (0, 0)) (by (with_reducible repeat (first | refine blk_drewN ?_ _ | refine blk_drew ?_ | refine blk_alloc ?_ _)); exact BK219.out) k_ hk⟩))
                  (case aO => exact (by (with_reducible repeat (first | apply Kd.N_alloc | apply Kd.N_drewN | apply Kd.N_drew)); exact HO_8.out))
                  (case aS => exact (below_size (by repeat (first | (with_reducible first | exact HB.out | apply below_alloc | apply pw_below_drewN | apply below_drew1 | refine below_set ?_ GE218.out | refine below_set ?_ GE219.out) | exact HB.out))))
                  (case aL => have := LMc47.out; omega)
                  intro v247 w55 ho hb hg hat
                  rw [← Ny246.out] at ho
                  have n0_ := Aside0.mk (Kd.V_afterv (ok := (fun k_ => ((P0_ k_ ∨ P1_ k_) ∨ w.heap.size ≤ k_) ∧ some k_ ≠ (.slice (some ad222) t214.length co8 : Value).ownBlock ∧ k_ ≠ gb218 ∧ k_ ≠ gb219)) (by (with_reducible repeat (first | apply Kd.V_alloc | apply Kd.V_drewN | apply Kd.V_drew)); exact Kd.V_mono HO_0.out (fun _ hk => ⟨⟨hk.1, ⟨hk.2.1, ⟨hk.2.2.2.1, hk.2.2.2.2⟩⟩⟩, hk.2.2.1⟩)) hg hat)
                  have n1_ := Aside0.mk (Kd.V_afterv (ok := (fun k_ => ((P0_ k_ ∨ P1_ k_) ∨ w.heap.size ≤ k_) ∧ some k_ ≠ (.slice (some ad222) t214.length co8 : Value).ownBlock ∧ k_ ≠ gb218 ∧ k_ ≠ gb219)) (by (with_reducible repeat (first | apply Kd.V_alloc | apply Kd.V_drewN | apply Kd.V_drew)); exact Kd.V_mono HO_1.out (fun _ hk => ⟨⟨hk.1, ⟨hk.2.1, ⟨hk.2.2.2.1, hk.2.2.2.2⟩⟩⟩, hk.2.2.1⟩)) hg hat)
                  have n2_ := Aside0.mk (Kd.R_over' (by (with_reducible repeat (first | apply Kd.R_alloc | apply Kd.R_drewN | apply Kd.R_drew)); exact HO_6.out) (Kd.N_typed (by (with_reducible repeat (first | apply Kd.N_alloc | apply Kd.N_drewN | apply Kd.N_drew)); exact HO_8.out)) (by decide) hg)
                  have n3_ := Aside0.mk (blk_grown (g := gb218) (o := .cells #[.int .i64 x219000_6, .int .i64 x219001_6] 40 (0, 0)) (by (with_reducible repeat (first | refine blk_drewN ?_ _ | refine blk_drew ?_ | refine blk_alloc ?_ _)); exact BK218.out) hg (Kd.N_ne HO_8.out BK218.out (by decide)))
                  have n4_ := Aside0.mk (blk_grown (g := gb219) (o := .cells #[.int .i64 ((rd_T40 t214 x9_1).f0), .int .i64 ((rd_T40 t214 x9_1).f1)] 40 (0, 0)) (by (with_reducible repeat (first | refine blk_drewN ?_ _ | refine blk_drew ?_ | refine blk_alloc ?_ _)); exact BK219.out) hg (Kd.N_ne HO_8.out BK219.out (by decide)))
                  have n5_ := Aside0.mk (Kd.V_afterv (ok := (fun k_ => ((P0_ k_ ∨ P1_ k_) ∨ w.heap.size ≤ k_) ∧ some k_ ≠ (.slice (some ad222) t214.length co8 : Value).ownBlock ∧ k_ ≠ gb218 ∧ k_ ≠ gb219)) (by (with_reducible repeat (first | apply Kd.V_alloc | apply Kd.V_drewN | apply Kd.V_drew)); exact Kd.V_mono HO240.out (fun _ hk => ⟨⟨hk.1, ⟨hk.2.1, ⟨hk.2.2.2.1, hk.2.2.2.2⟩⟩⟩, hk.2.2.1⟩)) hg hat)
                  have n6_ := Aside0.mk (Kd.V_afterv (ok := (fun k_ => ((P0_ k_ ∨ P1_ k_) ∨ w.heap.size ≤ k_) ∧ some k_ ≠ (.slice (some ad222) t214.length co8 : Value).ownBlock ∧ k_ ≠ gb218 ∧ k_ ≠ gb219)) (by (with_reducible repeat (first | apply Kd.V_alloc | apply Kd.V_drewN | apply Kd.V_drew)); exact Kd.V_mono HO245.out (fun _ hk => ⟨⟨hk.1, ⟨hk.2.1, ⟨hk.2.2.2.1, hk.2.2.2.2⟩⟩⟩, hk.2.2.1⟩)) hg hat)
                  have n7_ := Aside0.mk (hb)
                  have n8_ := Aside0.mk (ho)
                  clear HO_0
                  clear HO_1
                  clear HO_6
                  clear BK218
                  clear BK219
                  clear HO240
                  clear HO245
                  clear HB
                  clear HO_8
                  have HO_0 := n0_
                  have HO_1 := n1_
                  have HO_6 := n2_
                  have BK218 := n3_
                  have BK219 := n4_
                  have HO240 := n5_
                  have HO245 := n6_
                  have HB := n7_
                  have HO248 := n8_
                  clear n0_ n1_ n2_ n3_ n4_ n5_ n6_ n7_ n8_
                  clear ho hb hg hat
                  refine hK.out _ _ ⟨(blk_cell BK218.out 0).trans rfl, (blk_cell BK218.out 1).trans rfl, (blk_cell BK219.out 0).trans rfl, (blk_cell BK219.out 1).trans rfl⟩ (fun hHeld => ?_)
                  clear hK K
                  refine norm_ (a' := ?_) ?_ ?_
                  rotate_left
                  ·show Act.put _ (some 89) _ = _
                   simp only [Act.put, List.setIfInBounds_toArray, List.set_cons_zero, List.set_cons_succ, i64_w, i32_w]
                   rfl
                  refine pure_ (i := 20) (N := some 8) (v := ?_) (a' := ?_) (vb 2097151 21) rfl rfl (any_of HT_.out (by kernel_rfl)) (fun _ _ _ h => h) (Or.inl ⟨by rfl, ?_⟩) ?_ ?_
                  rotate_left
                  ·intro w'
                   go_simp
                   with_reducible rfl
                  rotate_left
                  ·simp only [Act.put, List.setIfInBounds_toArray, List.set_cons_zero, List.set_cons_succ, i64_w, i32_w]
                   rfl
                  refine done_ (done_of HT_.out (by kernel_rfl)) ?_
                  try go_wp2
                  go_roundg kj6
                  case measure => have := HK1.out; have := HJ6.out; omega
                  case rel => exact ⟨(y246), (wrap64 (x9_1 + 1)), (by first | rfl | (simp; done) | (simp [*]; done)), H', ⟨by have := HK1.out; have := HJ6.out; omega⟩, ⟨by (with_reducible repeat (first | apply Kd.V_alloc | apply Kd.V_drewN | apply Kd.V_drew)); exact Kd.V_mono HO_0.out (fun _ hk => ⟨hk.1.1, ⟨hk.1.2.1, hk.2⟩⟩)⟩, ⟨by (with_reducible repeat (first | apply Kd.V_alloc | apply Kd.V_drewN | apply Kd.V_drew)); exact Kd.V_mono HO_1.out (fun _ hk => ⟨hk.1.1, ⟨hk.1.2.1, hk.2⟩⟩)⟩, ⟨by (with_reducible repeat (first | apply Kd.R_alloc | apply Kd.R_drewN | apply Kd.R_drew)); exact Kd.R_mono HO_6.out (fun _ hk => hk.1)⟩, ⟨by (with_reducible repeat (first | apply Kd.N_alloc | apply Kd.N_drewN | apply Kd.N_drew)); exact Kd.N_mono HO248.out (fun _ hk => ⟨hk.1, hk.2.1⟩)⟩, ⟨by repeat (first | (with_reducible first | exact HB.out | apply below_alloc | apply pw_below_drewN | apply below_drew1 | refine below_set ?_ GE218.out | refine below_set ?_ GE219.out) | exact HB.out)⟩⟩
                 ·rw [if_neg c47] at H
                  exact absurd H (by simp)
                ·rw [if_neg c46] at H
                 exact absurd H (by simp)
               ·rw [if_neg c45] at H
                exact absurd H (by simp)
              ·rw [if_neg c44] at H
               exact absurd H (by simp)
             ·rw [if_neg c43] at H
              exact absurd H (by simp)
            ·rw [if_neg c42] at H
             exact absurd H (by simp)
           ·rw [if_neg c41] at H
            exact absurd H (by simp)
          ·rw [if_neg c40] at H
           have c40b0 : decide (x219001_6 < ((rd_T40 t214 x9_1).f1)) = false := decide_eq_false c40
           clear c40
           have H' := Aside0.mk H
           clear H
           have p222 : 0 ≤ (x9_1 : Int) := of_decide_eq_true (by first | (with_reducible assumption) | assumption)
           have q222 : x9_1 < (t214.length : Int) := of_decide_eq_true (by first | (with_reducible assumption) | assumption)
           obtain ⟨ad222, e222, hx222_0, hx222_1⟩ := at_T40 (Kd.R_reads' HO_6.out).2.2 x9_1 p222 q222
           cases e222
           replace p222 := eq_true p222
           replace q222 := eq_true q222
           have hnb56 := NB219_218.out
           have hnc56 := NB218_219.out
           have hcz57_0 : wc.cell? ⟨gb219, 0, none⟩ = some (.int .i64 (l0.length : Int)) := (blk_cell BK219.out 0).trans rfl
           have hcz57_1 : wc.cell? ⟨gb219, 1, none⟩ = some (.int .i64 (l1.length : Int)) := (blk_cell BK219.out 1).trans rfl
           have hfz57_0 := blk_frozen BK219.out 0
           have hfz57_1 := blk_frozen BK219.out 1
           have hcz58_0 : wc.cell? ⟨gb218, 0, none⟩ = some (.int .i64 x219000_6) := (blk_cell BK218.out 0).trans rfl
           have hcz58_1 : wc.cell? ⟨gb218, 1, none⟩ = some (.int .i64 x219001_6) := (blk_cell BK218.out 1).trans rfl
           have hfz58_0 := blk_frozen BK218.out 0
           have hfz58_1 := blk_frozen BK218.out 1
           go_wp2
           go_roundg kj6
           case measure => have := HK1.out; have := HJ6.out; omega
           case rel => exact ⟨(x8_1), (wrap64 (x9_1 + 1)), (by first | rfl | (simp; done) | (simp [*]; done)), H', ⟨by have := HK1.out; have := HJ6.out; omega⟩, ⟨by (with_reducible repeat (first | apply Kd.V_alloc | apply Kd.V_drewN | apply Kd.V_drew)); exact Kd.V_mono (Kd.V_far (p := ⟨gb219, 1, none⟩) (Kd.V_far (p := ⟨gb219, 0, none⟩) (Kd.V_mono HO_0.out (fun k_ hk => (⟨hk, hk.2.2.2.2⟩ : _ ∧ k_ ≠ gb219))) (fun _ hk => hk.2) (.int .i64 ((rd_T40 t214 x9_1).f0))) (fun _ hk => hk.2) (.int .i64 ((rd_T40 t214 x9_1).f1))) (fun _ hk => ⟨hk.1.1, ⟨hk.1.2.1, hk.1.2.2.1⟩⟩)⟩, ⟨by (with_reducible repeat (first | apply Kd.V_alloc | apply Kd.V_drewN | apply Kd.V_drew)); exact Kd.V_mono (Kd.V_far (p := ⟨gb219, 1, none⟩) (Kd.V_far (p := ⟨gb219, 0, none⟩) (Kd.V_mono HO_1.out (fun k_ hk => (⟨hk, hk.2.2.2.2⟩ : _ ∧ k_ ≠ gb219))) (fun _ hk => hk.2) (.int .i64 ((rd_T40 t214 x9_1).f0))) (fun _ hk => hk.2) (.int .i64 ((rd_T40 t214 x9_1).f1))) (fun _ hk => ⟨hk.1.1, ⟨hk.1.2.1, hk.1.2.2.1⟩⟩)⟩, ⟨by (with_reducible repeat (first | apply Kd.R_alloc | apply Kd.R_drewN | apply Kd.R_drew)); exact Kd.R_mono (Kd.R_far (p := ⟨gb219, 1, none⟩) (Kd.R_far (p := ⟨gb219, 0, none⟩) (Kd.R_mono HO_6.out (fun k_ hk => (⟨hk, hk.2.2⟩ : _ ∧ k_ ≠ gb219))) (fun _ hk => hk.2) (.int .i64 ((rd_T40 t214 x9_1).f0))) (fun _ hk => hk.2) (.int .i64 ((rd_T40 t214 x9_1).f1))) (fun _ hk => hk.1.1)⟩, ⟨by (with_reducible repeat (first | apply Kd.N_alloc | apply Kd.N_drewN | apply Kd.N_drew)); exact Kd.N_mono (Kd.N_far (p := ⟨gb219, 1, none⟩) (Kd.N_far (p := ⟨gb219, 0, none⟩) (Kd.N_mono HO_8.out (fun k_ hk => (⟨hk, hk.2.2.2⟩ : _ ∧ k_ ≠ gb219))) (fun _ hk => hk.2) (.int .i64 ((rd_T40 t214 x9_1).f0))) (fun _ hk => hk.2) (.int .i64 ((rd_T40 t214 x9_1).f1))) (fun _ hk => ⟨hk.1.1, hk.1.2.1⟩)⟩, ⟨by repeat (first | (with_reducible first | exact HB.out | apply below_alloc | apply pw_below_drewN | apply below_drew1 | refine below_set ?_ GE218.out | refine below_set ?_ GE219.out) | exact HB.out)⟩⟩
        ·rw [if_neg c23] at H
         exact absurd H (by simp)
       ·rw [if_neg c22] at H
        have c22b0 : decide (x9_1 < (t214.length : Int)) = false := decide_eq_false c22
        clear c22
        by_cases c59 : x219000_6 < (l0.length : Int)
        ·rw [if_pos c59] at H
         have c59b0 : decide (x219000_6 < (l0.length : Int)) = true := decide_eq_true c59
         clear c59
         by_cases c60 : 0 ≤ x219000_6
         ·rw [if_pos c60] at H
          have c60b0 := eq_true c60
          have c60b1 : decide (0 ≤ x219000_6) = true := decide_eq_true c60
          clear c60
          by_cases c61 : x219000_6 ≤ (l0.length : Int)
          ·rw [if_pos c61] at H
           have c61b0 := eq_true c61
           have c61b1 : decide (x219000_6 ≤ (l0.length : Int)) = true := decide_eq_true c61
           clear c61
           by_cases c62 : (l0.length : Int) ≤ (l0.length : Int)
           ·rw [if_pos c62] at H
            have c62b0 := eq_true c62
            have c62b1 : decide ((l0.length : Int) ≤ (l0.length : Int)) = true := decide_eq_true c62
            clear c62
            obtain ⟨y249, hy249⟩ : ∃ y_ : List ByteArray, y_ = ((l0.take ((l0.length : Int) : Int).toNat).drop (x219000_6 : Int).toNat) := ⟨_, rfl⟩
            replace H : (if 0 ≤ x219001_6 then (if x219001_6 ≤ (l1.length : Int) then (if (l1.length : Int) ≤ (l1.length : Int) then (if x8_1.length < 2199023255552 then (forebearref05_Hunks.l0 kj6 l0 l1 t214 (x8_1 ++ [(⟨x219000_6, x219001_6, y249, ((l1.take ((l1.length : Int) : Int).toNat).drop (x219001_6 : Int).toNat)⟩ : S47)]) (wrap64 (x9_1 + 1))) else (none)) else (none)) else (none)) else (none)) = some (r1, r2) := by first | (rw [hy249]; with_reducible exact H) | (have H2_ := (Option.bind_some _ _).symm.trans H; rw [hy249]; with_reducible exact H2_) | (have H2_ := (Option.bind_some _ _).symm.trans H; with_reducible exact H2_) | with_reducible exact H | (rw [hy249]; exact H) | exact H
            have Ny249 := Aside0.mk hy249
            clear hy249
            by_cases c63 : 0 ≤ x219001_6
            ·rw [if_pos c63] at H
             have c63b0 := eq_true c63
             have c63b1 : decide (0 ≤ x219001_6) = true := decide_eq_true c63
             clear c63
             by_cases c64 : x219001_6 ≤ (l1.length : Int)
             ·rw [if_pos c64] at H
              have c64b0 := eq_true c64
              have c64b1 : decide (x219001_6 ≤ (l1.length : Int)) = true := decide_eq_true c64
              clear c64
              by_cases c65 : (l1.length : Int) ≤ (l1.length : Int)
              ·rw [if_pos c65] at H
               have c65b0 := eq_true c65
               have c65b1 : decide ((l1.length : Int) ≤ (l1.length : Int)) = true := decide_eq_true c65
               clear c65
               obtain ⟨y254, hy254⟩ : ∃ y_ : List ByteArray, y_ = ((l1.take ((l1.length : Int) : Int).toNat).drop (x219001_6 : Int).toNat) := ⟨_, rfl⟩
               replace H : (if x8_1.length < 2199023255552 then (forebearref05_Hunks.l0 kj6 l0 l1 t214 (x8_1 ++ [(⟨x219000_6, x219001_6, y249, y254⟩ : S47)]) (wrap64 (x9_1 + 1))) else (none)) = some (r1, r2) := by first | (rw [hy254]; with_reducible exact H) | (have H2_ := (Option.bind_some _ _).symm.trans H; rw [hy254]; with_reducible exact H2_) | (have H2_ := (Option.bind_some _ _).symm.trans H; with_reducible exact H2_) | with_reducible exact H | (rw [hy254]; exact H) | exact H
               have Ny254 := Aside0.mk hy254
               clear hy254
               by_cases c66 : x8_1.length < 2199023255552
               ·rw [if_pos c66] at H
                have LMc66 := Aside0.mk c66
                clear c66
                obtain ⟨y259, hy259⟩ : ∃ y_ : List (S47), y_ = (x8_1 ++ [(⟨x219000_6, x219001_6, y249, y254⟩ : S47)]) := ⟨_, rfl⟩
                replace H : (forebearref05_Hunks.l0 kj6 l0 l1 t214 y259 (wrap64 (x9_1 + 1))) = some (r1, r2) := by first | (rw [hy259]; with_reducible exact H) | (have H2_ := (Option.bind_some _ _).symm.trans H; rw [hy259]; with_reducible exact H2_) | (have H2_ := (Option.bind_some _ _).symm.trans H; with_reducible exact H2_) | with_reducible exact H | (rw [hy259]; exact H) | exact H
                have Ny259 := Aside0.mk hy259
                clear hy259
                have H' := Aside0.mk H
                clear H
                have hnb67 := NB218_219.out
                have hnc67 := NB219_218.out
                have hcz68_0 : wc.cell? ⟨gb218, 0, none⟩ = some (.int .i64 x219000_6) := (blk_cell BK218.out 0).trans rfl
                have hcz68_1 : wc.cell? ⟨gb218, 1, none⟩ = some (.int .i64 x219001_6) := (blk_cell BK218.out 1).trans rfl
                have hfz68_0 := blk_frozen BK218.out 0
                have hfz68_1 := blk_frozen BK218.out 1
                have hcz69_0 : wc.cell? ⟨gb219, 0, none⟩ = some (.int .i64 (l0.length : Int)) := (blk_cell BK219.out 0).trans rfl
                have hcz69_1 : wc.cell? ⟨gb219, 1, none⟩ = some (.int .i64 (l1.length : Int)) := (blk_cell BK219.out 1).trans rfl
                have hfz69_0 := blk_frozen BK219.out 0
                have hfz69_1 := blk_frozen BK219.out 1
                try go_wp2
                have n0_ := Aside0.mk (Kd.V_drew HO_0.out)
                have n1_ := Aside0.mk (Kd.V_drew HO_1.out)
                have n2_ := Aside0.mk (Kd.R_drew HO_6.out)
                have n3_ := Aside0.mk (Kd.N_drew HO_8.out)
                have n4_ := Aside0.mk (blk_drew BK218.out)
                have n5_ := Aside0.mk (blk_drew BK219.out)
                have n6_ := Aside0.mk (below_drew1 HB.out)
                clear HO_0
                clear HO_1
                clear HO_6
                clear HO_8
                clear BK218
                clear BK219
                clear HB
                have HO_0 := n0_
                have HO_1 := n1_
                have HO_6 := n2_
                have HO_8 := n3_
                have BK218 := n4_
                have BK219 := n5_
                have HB := n6_
                clear n0_ n1_ n2_ n3_ n4_ n5_ n6_
                have q71 : ((l0.length : Int) : Int) ≤ ((l0.length : Int) : Int) := of_decide_eq_true (by first | (with_reducible assumption) | assumption)
                obtain ⟨i071, hi071, _, hsz71, _⟩ := info_parts info9
                have hroom71 : l0.length ≤ c0 := (Kd.V_reads' HO_0.out).2.1
                have hC71 : Kd.F Kd.string _ _ A0 l0.length l0 := (Kd.V_at (base := w.heap.size) HO_0.out).2.2
                have ql71 : (x219000_6 : Int) ≤ ((l0.length : Int) : Int) := of_decide_eq_true (by first | (with_reducible assumption) | assumption)
                have q071 : (0 : Int) ≤ (x219000_6 : Int) := of_decide_eq_true (by first | (with_reducible assumption) | assumption)
                have hcut71 := cut_mid (P := Try.prog) 22 9 .i64 .i64 Try.underlying22 hi071 1 hsz71 A0 l0.length c0 x219000_6 (l0.length : Int) q071 ql71 q71 hroom71
                have hr71 := Kd.F_mid (lo := (x219000_6 : Int).toNat) (hi := ((l0.length : Int) : Int).toNat) (c := c0) hC71 (by omega) (by omega) hroom71
                obtain ⟨A71, hA71⟩ : ∃ A1, A1 = (if c0 = (x219000_6 : Int).toNat then A0 else (A0 : Option Addr).map (·.add ((x219000_6 : Int).toNat * 1))) := ⟨_, rfl⟩
                obtain ⟨c71, hc71⟩ : ∃ c1, c1 = c0 - (x219000_6 : Int).toNat := ⟨_, rfl⟩
                have hy71 : y249.length = ((l0.length : Int) : Int).toNat - (x219000_6 : Int).toNat := (by rw [Ny249.out, List.length_drop, List.length_take] <;> omega)
                rw [show ((l0).take ((l0.length : Int) : Int).toNat).drop (x219000_6 : Int).toNat = y249 from Ny249.out.symm] at hr71
                replace hr71 : Kd.F Kd.string _ _ A71 y249.length y249 := (by rw [hA71]; exact hr71)
                rw [← hy71, ← hA71, ← hc71] at hcut71
                have HO253 := Aside0.mk (show Kd.V Kd.string 9 _ w.heap.size _ (.slice A71 y249.length c71) y249 from Kd.V_mk (by rw [hy71, hc71]; exact Nat.sub_le_sub_right (Nat.le_trans (by omega) hroom71) _) hr71)
                have HC253 := Aside0.mk (show y249.length ≤ c71 from by rw [hy71, hc71]; exact Nat.sub_le_sub_right (Nat.le_trans (by omega) hroom71) _)
                clear hr71 hC71 hroom71 hi071 hsz71 hc71
                have KY71 := Aside0.mk hy71
                have KA71 := Aside0.mk hA71
                clear hy71 hA71
                replace q71 := eq_true q71
                have q72 : ((l1.length : Int) : Int) ≤ ((l1.length : Int) : Int) := of_decide_eq_true (by first | (with_reducible assumption) | assumption)
                obtain ⟨i072, hi072, _, hsz72, _⟩ := info_parts info9
                have hroom72 : l1.length ≤ c1 := (Kd.V_reads' HO_1.out).2.1
                have hC72 : Kd.F Kd.string _ _ A1 l1.length l1 := (Kd.V_at (base := w.heap.size) HO_1.out).2.2
                have ql72 : (x219001_6 : Int) ≤ ((l1.length : Int) : Int) := of_decide_eq_true (by first | (with_reducible assumption) | assumption)
                have q072 : (0 : Int) ≤ (x219001_6 : Int) := of_decide_eq_true (by first | (with_reducible assumption) | assumption)
                have hcut72 := cut_mid (P := Try.prog) 22 9 .i64 .i64 Try.underlying22 hi072 1 hsz72 A1 l1.length c1 x219001_6 (l1.length : Int) q072 ql72 q72 hroom72
                have hr72 := Kd.F_mid (lo := (x219001_6 : Int).toNat) (hi := ((l1.length : Int) : Int).toNat) (c := c1) hC72 (by omega) (by omega) hroom72
                obtain ⟨A72, hA72⟩ : ∃ Az_, Az_ = (if c1 = (x219001_6 : Int).toNat then A1 else (A1 : Option Addr).map (·.add ((x219001_6 : Int).toNat * 1))) := ⟨_, rfl⟩
                obtain ⟨c72, hc72⟩ : ∃ cz_, cz_ = c1 - (x219001_6 : Int).toNat := ⟨_, rfl⟩
                have hy72 : y254.length = ((l1.length : Int) : Int).toNat - (x219001_6 : Int).toNat := (by rw [Ny254.out, List.length_drop, List.length_take] <;> omega)
                rw [show ((l1).take ((l1.length : Int) : Int).toNat).drop (x219001_6 : Int).toNat = y254 from Ny254.out.symm] at hr72
                replace hr72 : Kd.F Kd.string _ _ A72 y254.length y254 := (by rw [hA72]; exact hr72)
                rw [← hy72, ← hA72, ← hc72] at hcut72
                have HO258 := Aside0.mk (show Kd.V Kd.string 9 _ w.heap.size _ (.slice A72 y254.length c72) y254 from Kd.V_mk (by rw [hy72, hc72]; exact Nat.sub_le_sub_right (Nat.le_trans (by omega) hroom72) _) hr72)
                have HC258 := Aside0.mk (show y254.length ≤ c72 from by rw [hy72, hc72]; exact Nat.sub_le_sub_right (Nat.le_trans (by omega) hroom72) _)
                clear hr72 hC72 hroom72 hi072 hsz72 hc72
                have KY72 := Aside0.mk hy72
                have KA72 := Aside0.mk hA72
                clear hy72 hA72
                replace q72 := eq_true q72
                refine start_ (n := 21) (S := fun w' => w'.cell? ⟨gb218, 0, none⟩ = some (.int .i64 x219000_6) ∧ w'.cell? ⟨gb218, 1, none⟩ = some (.int .i64 x219001_6) ∧ w'.cell? ⟨gb219, 0, none⟩ = some (.int .i64 (l0.length : Int)) ∧ w'.cell? ⟨gb219, 1, none⟩ = some (.int .i64 (l1.length : Int))) (ds := []) (vb 0 21) (by kernel_rfl) rfl rfl ⟨(blk_cell BK218.out 0).trans rfl, (blk_cell BK218.out 1).trans rfl, (blk_cell BK219.out 0).trans rfl, (blk_cell BK219.out 1).trans rfl⟩ (fun hHeld => ?_); refine with_tabW forebearref05_Hunks.tab15 forebearref05_Hunks.bits15 (fun HT_ HW_ => ?_)
                generalize wc.drew = w70 at HO_0 HO_1 HO_6 HO_8 BK218 BK219 HB HO253 HO258 hHeld ⊢
                refine pure_ (i := 0) (N := some 70) (v := ?_) (a' := ?_) (vb 1 21) rfl rfl (any_of HT_.out (by kernel_rfl)) (fun _ _ _ h => h) (Or.inl ⟨by rfl, ?_⟩) ?_ ?_
                rotate_left
                ·intro w'
                 go_simp
                 with_reducible rfl
                rotate_left
                ·simp only [Act.put, List.setIfInBounds_toArray, List.set_cons_zero, List.set_cons_succ, i64_w, i32_w]
                 rfl
                refine pure_ (i := 1) (N := some 71) (v := ?_) (a' := ?_) (vb 3 21) rfl rfl (any_of HT_.out (by kernel_rfl)) (fun _ _ _ h => h) (Or.inl ⟨by rfl, ?_⟩) ?_ ?_
                rotate_left
                ·intro w'
                 go_simp
                 with_reducible rfl
                rotate_left
                ·simp only [Act.put, List.setIfInBounds_toArray, List.set_cons_zero, List.set_cons_succ, i64_w, i32_w]
                 rfl
                refine pure_ (i := 3) (N := some 73) (v := ?_) (a' := ?_) (vb 11 21) rfl rfl (any_of HT_.out (by kernel_rfl)) (fun _ _ _ h => h) (Or.inl ⟨by rfl, ?_⟩) ?_ ?_
                rotate_left
                ·intro w'
                 go_simp
                 with_reducible rfl
                rotate_left
                ·simp only [Act.put, List.setIfInBounds_toArray, List.set_cons_zero, List.set_cons_succ, i64_w, i32_w]
                 rfl
                refine pure_ (i := 5) (N := some 75) (v := ?_) (a' := ?_) (vb 43 21) rfl rfl (any_of HT_.out (by kernel_rfl)) (fun _ _ _ h => h) (Or.inl ⟨by rfl, ?_⟩) ?_ ?_
                rotate_left
                ·intro w'
                 go_simp
                 with_reducible rfl
                rotate_left
                ·simp only [Act.put, List.setIfInBounds_toArray, List.set_cons_zero, List.set_cons_succ, i64_w, i32_w]
                 rfl
                refine pure_ (i := 6) (N := some 76) (v := ?_) (a' := ?_) (vb 107 21) rfl rfl (any_of HT_.out (by kernel_rfl)) (fun _ _ _ h => h) (Or.inl ⟨by rfl, ?_⟩) ?_ ?_
                rotate_left
                ·intro w'
                 go_simp
                 with_reducible rfl
                rotate_left
                ·simp only [Act.put, List.setIfInBounds_toArray, List.set_cons_zero, List.set_cons_succ, i64_w, i32_w]
                 rfl
                refine pure_ (i := 8) (N := some 78) (v := ?_) (a' := ?_) (vb 363 21) rfl rfl (any_of HT_.out (by kernel_rfl)) (fun _ _ _ h => h) (Or.inl ⟨by rfl, ?_⟩) ?_ ?_
                rotate_left
                ·intro w'
                 go_simp
                 with_reducible rfl
                rotate_left
                ·simp only [Act.put, List.setIfInBounds_toArray, List.set_cons_zero, List.set_cons_succ, i64_w, i32_w]
                 rfl
                refine pure_ (i := 11) (N := some 81) (v := ?_) (a' := ?_) (vb 2411 21) rfl rfl (any_of HT_.out (by kernel_rfl)) (fun _ _ _ h => h) (Or.inl ⟨by rfl, ?_⟩) ?_ ?_
                rotate_left
                ·intro w'
                 go_simp
                 with_reducible rfl
                rotate_left
                ·simp only [Act.put, List.setIfInBounds_toArray, List.set_cons_zero, List.set_cons_succ, i64_w, i32_w]
                 rfl
                refine pure_ (i := 12) (N := some 82) (v := ?_) (a' := ?_) (vb 6507 21) rfl rfl (any_of HT_.out (by kernel_rfl)) (fun _ _ _ h => h) (Or.inl ⟨by rfl, ?_⟩) ?_ ?_
                rotate_left
                ·intro w'
                 go_simp
                 with_reducible rfl
                rotate_left
                ·simp only [Act.put, List.setIfInBounds_toArray, List.set_cons_zero, List.set_cons_succ, i64_w, i32_w]
                 rfl
                refine pure_ (i := 14) (N := some 84) (v := ?_) (a' := ?_) (vb 22891 21) rfl rfl (any_of HT_.out (by kernel_rfl)) (fun _ _ _ h => h) (Or.inl ⟨by rfl, ?_⟩) ?_ ?_
                rotate_left
                ·intro w'
                 go_simp
                 with_reducible rfl
                rotate_left
                ·simp only [Act.put, List.setIfInBounds_toArray, List.set_cons_zero, List.set_cons_succ, i64_w, i32_w]
                 rfl
                refine take_ (i := 2) (N := some 72) (v := ?_) (a' := ?_) (vb 22895 21) rfl rfl (take_ofW HT_.out HW_.out (by kernel_rfl)) (fun _ _ _ h => h) (Or.inl ⟨by rfl, ?_⟩) hHeld ?_ ?_
                rotate_left
                ·rintro w' ⟨s0, s1, s2, s3⟩
                 go_simp
                 with_reducible rfl
                rotate_left
                ·simp only [Act.put, List.setIfInBounds_toArray, List.set_cons_zero, List.set_cons_succ, i64_w, i32_w]
                 rfl
                refine take_ (i := 4) (N := some 74) (v := ?_) (a' := ?_) (vb 22911 21) rfl rfl (take_ofW HT_.out HW_.out (by kernel_rfl)) (fun _ _ _ h => h) (Or.inl ⟨by rfl, ?_⟩) hHeld ?_ ?_
                rotate_left
                ·rintro w' ⟨s0, s1, s2, s3⟩
                 go_simp
                 with_reducible rfl
                rotate_left
                ·simp only [Act.put, List.setIfInBounds_toArray, List.set_cons_zero, List.set_cons_succ, i64_w, i32_w]
                 rfl
                refine take_ (i := 7) (N := some 77) (v := ?_) (a' := ?_) (vb 23039 21) rfl rfl (take_ofW HT_.out HW_.out (by kernel_rfl)) (fun _ _ _ h => h) (Or.inl ⟨by rfl, ?_⟩) hHeld ?_ ?_
                rotate_left
                ·rintro w' ⟨s0, s1, s2, s3⟩
                 go_simp
                 with_reducible rfl
                rotate_left
                ·simp only [Act.put, List.setIfInBounds_toArray, List.set_cons_zero, List.set_cons_succ, i64_w, i32_w]
                 rfl
                refine take_ (i := 9) (N := some 79) (v := ?_) (a' := ?_) (vb 23551 21) rfl rfl (take_ofW HT_.out HW_.out (by kernel_rfl)) (fun _ _ _ h => h) (Or.inl ⟨by rfl, ?_⟩) hHeld ?_ ?_
                rotate_left
                ·rintro w' ⟨s0, s1, s2, s3⟩
                 go_simp
                 with_reducible rfl
                rotate_left
                ·simp only [Act.put, List.setIfInBounds_toArray, List.set_cons_zero, List.set_cons_succ, i64_w, i32_w]
                 rfl
                refine pure_ (i := 10) (N := some 80) (v := ?_) (a' := ?_) (vb 24575 21) rfl rfl (any_of HT_.out (by kernel_rfl)) (fun _ _ _ h => h) (Or.inl ⟨by rfl, ?_⟩) ?_ ?_
                rotate_left
                ·intro w'
                 go_simp
                 with_reducible rfl
                rotate_left
                ·simp only [Act.put, List.setIfInBounds_toArray, List.set_cons_zero, List.set_cons_succ, i64_w, i32_w]
                 rfl
                refine take_ (i := 13) (N := some 83) (v := ?_) (a' := ?_) (vb 32767 21) rfl rfl (take_ofW HT_.out HW_.out (by kernel_rfl)) (fun _ _ _ h => h) (Or.inl ⟨by rfl, ?_⟩) hHeld ?_ ?_
                rotate_left
                ·rintro w' ⟨s0, s1, s2, s3⟩
                 go_simp
                 with_reducible rfl
                rotate_left
                ·simp only [Act.put, List.setIfInBounds_toArray, List.set_cons_zero, List.set_cons_succ, i64_w, i32_w]
                 rfl
                refine take_ (i := 15) (N := some 85) (v := ?_) (a' := ?_) (vb 65535 21) rfl rfl (take_ofW HT_.out HW_.out (by kernel_rfl)) (fun _ _ _ h => h) (Or.inl ⟨by rfl, ?_⟩) hHeld ?_ ?_
                rotate_left
                ·rintro w' ⟨s0, s1, s2, s3⟩
                 go_simp
                 with_reducible rfl
                rotate_left
                ·simp only [Act.put, List.setIfInBounds_toArray, List.set_cons_zero, List.set_cons_succ, i64_w, i32_w]
                 rfl
                refine pure_ (i := 16) (N := some 86) (v := ?_) (a' := ?_) (vb 131071 21) rfl rfl (any_of HT_.out (by kernel_rfl)) (fun _ _ _ h => h) (Or.inl ⟨by rfl, ?_⟩) ?_ ?_
                rotate_left
                ·intro w'
                 go_simp
                 with_reducible rfl
                rotate_left
                ·simp only [Act.put, List.setIfInBounds_toArray, List.set_cons_zero, List.set_cons_succ, i64_w, i32_w]
                 rfl
                refine pure_ (i := 17) (N := some 87) (v := ?_) (a' := ?_) (vb 262143 21) rfl rfl (any_of HT_.out (by kernel_rfl)) (fun _ _ _ h => h) (Or.inl ⟨by rfl, ?_⟩) ?_ ?_
                rotate_left
                ·intro w'
                 go_simp
                 with_reducible rfl
                rotate_left
                ·simp only [Act.put, List.setIfInBounds_toArray, List.set_cons_zero, List.set_cons_succ, i64_w, i32_w]
                 rfl
                refine one_ (i := 18) (N := some 88) (vb 524287 21) rfl rfl (one_of HT_.out (by kernel_rfl)) (by decide) (fun K hK => ?_)
                refine value_ (w1 := ?_) (v := ?_) (by rfl) rfl ?_ ?_
                rotate_left 2
                ·go_simp
                 constructor
                 ·rfl
                 ·rfl
                refine hK.out _ _ ⟨(blk_cell (blk_alloc BK218.out _) 0).trans rfl, (blk_cell (blk_alloc BK218.out _) 1).trans rfl, (blk_cell (blk_alloc BK219.out _) 0).trans rfl, (blk_cell (blk_alloc BK219.out _) 1).trans rfl⟩ (fun hHeld => ?_)
                clear hK K
                refine norm_ (a' := ?_) ?_ ?_
                rotate_left
                ·show Act.put _ (some 88) _ = _
                 simp only [Act.put, List.setIfInBounds_toArray, List.set_cons_zero, List.set_cons_succ, i64_w, i32_w]
                 rfl
                refine one_ (i := 19) (N := some 89) (vb 1048575 21) rfl rfl (one_of HT_.out (by kernel_rfl)) (by decide) (fun K hK => ?_)
                refine Kd.N_append_step k47 (w0 := w) w.heap.size (by rfl) (.tmp 70) (.tmp 88) 34 47 (.agg #[(.int .i64 0), (.int .i64 0), (.slice none 0 0), (.slice none 0 0)]) 64 rfl Try.underlying34 info47 rfl (by decide) (by omega) u8 x8_1 (⟨x219000_6, x219001_6, y249, y254⟩ : S47) [.int .i64 x219000_6, .int .i64 x219001_6, .slice A71 y249.length c71, .slice A72 y254.length c72] (fun k_ => ((P0_ k_ ∨ P1_ k_) ∨ w.heap.size ≤ k_) ∧ some k_ ≠ (.slice Ao8 t214.length co8 : Value).ownBlock ∧ k_ ≠ gb218 ∧ k_ ≠ gb219) (fun k_ => ((fun k_ => ((P0_ k_ ∨ P1_ k_) ∨ w.heap.size ≤ k_) ∧ some k_ ≠ (.slice Ao8 t214.length co8 : Value).ownBlock ∧ k_ ≠ gb218 ∧ k_ ≠ gb219)) k_ ∧ some k_ ≠ (u8 : Value).ownBlock) rfl rfl ?aP (fun _ hk => hk) ?aF ?aO ?aB ?aS ?aL ?_
                (case aP => exact (k47_mkF _ _ (⟨x219000_6, x219001_6, y249, y254⟩ : S47) (Kd.V_reads' (Kd.V_mono (e := 0) (base := 0) (ok' := (fun k_ => ((fun k_ => ((P0_ k_ ∨ P1_ k_) ∨ w.heap.size ≤ k_) ∧ some k_ ≠ (.slice Ao8 t214.length co8 : Value).ownBlock ∧ k_ ≠ gb218 ∧ k_ ≠ gb219)) k_ ∧ some k_ ≠ (u8 : Value).ownBlock)) (HO253.out) (fun k_ hk => ⟨⟨hk.1, ⟨hk.2.1, ⟨hk.2.2.2.1, hk.2.2.2.2⟩⟩⟩, hk.2.2.1⟩))).2.1 (Kd.V_F (Kd.V_mono (e := 0) (base := 0) (ok' := (fun k_ => ((fun k_ => ((P0_ k_ ∨ P1_ k_) ∨ w.heap.size ≤ k_) ∧ some k_ ≠ (.slice Ao8 t214.length co8 : Value).ownBlock ∧ k_ ≠ gb218 ∧ k_ ≠ gb219)) k_ ∧ some k_ ≠ (u8 : Value).ownBlock)) (HO253.out) (fun k_ hk => ⟨⟨hk.1, ⟨hk.2.1, ⟨hk.2.2.2.1, hk.2.2.2.2⟩⟩⟩, hk.2.2.1⟩))) (Kd.V_reads' (Kd.V_mono (e := 0) (base := 0) (ok' := (fun k_ => ((fun k_ => ((P0_ k_ ∨ P1_ k_) ∨ w.heap.size ≤ k_) ∧ some k_ ≠ (.slice Ao8 t214.length co8 : Value).ownBlock ∧ k_ ≠ gb218 ∧ k_ ≠ gb219)) k_ ∧ some k_ ≠ (u8 : Value).ownBlock)) (HO258.out) (fun k_ hk => ⟨⟨hk.1, ⟨hk.2.1, ⟨hk.2.2.2.1, hk.2.2.2.2⟩⟩⟩, hk.2.2.1⟩))).2.1 (Kd.V_F (Kd.V_mono (e := 0) (base := 0) (ok' := (fun k_ => ((fun k_ => ((P0_ k_ ∨ P1_ k_) ∨ w.heap.size ≤ k_) ∧ some k_ ≠ (.slice Ao8 t214.length co8 : Value).ownBlock ∧ k_ ≠ gb218 ∧ k_ ≠ gb219)) k_ ∧ some k_ ≠ (u8 : Value).ownBlock)) (HO258.out) (fun k_ hk => ⟨⟨hk.1, ⟨hk.2.1, ⟨hk.2.2.2.1, hk.2.2.2.2⟩⟩⟩, hk.2.2.1⟩)))))
                (case aB => exact (by repeat (first | (with_reducible first | exact HB.out | apply below_alloc | apply pw_below_drewN | apply below_drew1 | refine below_set ?_ GE218.out | refine below_set ?_ GE219.out) | exact HB.out)))
                (case aF => exact (fun k_ hk => ⟨(.inr (Nat.le_trans (below_size (by repeat (first | (with_reducible first | exact HB.out | apply below_alloc | apply pw_below_drewN | apply below_drew1 | refine below_set ?_ GE218.out | refine below_set ?_ GE219.out) | exact HB.out))) hk)), Kd.fresh' (Kd.R_lt (by (with_reducible repeat (first | apply Kd.R_alloc | apply Kd.R_drewN | apply Kd.R_drew)); exact HO_6.out)) k_ hk, Kd.freshB (g := gb218) (o := .cells #[.int .i64 x219000_6, .int .i64 x219001_6] 40 (0, 0)) (by (with_reducible repeat (first | refine blk_drewN ?_ _ | refine blk_drew ?_ | refine blk_alloc ?_ _)); exact BK218.out) k_ hk, Kd.freshB (g := gb219) (o := .cells #[.int .i64 (l0.length : Int), .int .i64 (l1.length : Int)] 40 (0, 0)) (by (with_reducible repeat (first | refine blk_drewN ?_ _ | refine blk_drew ?_ | refine blk_alloc ?_ _)); exact BK219.out) k_ hk⟩))
                (case aO => exact (by (with_reducible repeat (first | apply Kd.N_alloc | apply Kd.N_drewN | apply Kd.N_drew)); exact HO_8.out))
                (case aS => exact (below_size (by repeat (first | (with_reducible first | exact HB.out | apply below_alloc | apply pw_below_drewN | apply below_drew1 | refine below_set ?_ GE218.out | refine below_set ?_ GE219.out) | exact HB.out))))
                (case aL => have := LMc66.out; omega)
                intro v260 w73 ho hb hg hat
                rw [← Ny259.out] at ho
                have n0_ := Aside0.mk (Kd.V_afterv (ok := (fun k_ => ((P0_ k_ ∨ P1_ k_) ∨ w.heap.size ≤ k_) ∧ some k_ ≠ (.slice Ao8 t214.length co8 : Value).ownBlock ∧ k_ ≠ gb218 ∧ k_ ≠ gb219)) (by (with_reducible repeat (first | apply Kd.V_alloc | apply Kd.V_drewN | apply Kd.V_drew)); exact Kd.V_mono HO_0.out (fun _ hk => ⟨⟨hk.1, ⟨hk.2.1, ⟨hk.2.2.2.1, hk.2.2.2.2⟩⟩⟩, hk.2.2.1⟩)) hg hat)
                have n1_ := Aside0.mk (Kd.V_afterv (ok := (fun k_ => ((P0_ k_ ∨ P1_ k_) ∨ w.heap.size ≤ k_) ∧ some k_ ≠ (.slice Ao8 t214.length co8 : Value).ownBlock ∧ k_ ≠ gb218 ∧ k_ ≠ gb219)) (by (with_reducible repeat (first | apply Kd.V_alloc | apply Kd.V_drewN | apply Kd.V_drew)); exact Kd.V_mono HO_1.out (fun _ hk => ⟨⟨hk.1, ⟨hk.2.1, ⟨hk.2.2.2.1, hk.2.2.2.2⟩⟩⟩, hk.2.2.1⟩)) hg hat)
                have n2_ := Aside0.mk (Kd.R_over' (by (with_reducible repeat (first | apply Kd.R_alloc | apply Kd.R_drewN | apply Kd.R_drew)); exact HO_6.out) (Kd.N_typed (by (with_reducible repeat (first | apply Kd.N_alloc | apply Kd.N_drewN | apply Kd.N_drew)); exact HO_8.out)) (by decide) hg)
                have n3_ := Aside0.mk (blk_grown (g := gb218) (o := .cells #[.int .i64 x219000_6, .int .i64 x219001_6] 40 (0, 0)) (by (with_reducible repeat (first | refine blk_drewN ?_ _ | refine blk_drew ?_ | refine blk_alloc ?_ _)); exact BK218.out) hg (Kd.N_ne HO_8.out BK218.out (by decide)))
                have n4_ := Aside0.mk (blk_grown (g := gb219) (o := .cells #[.int .i64 (l0.length : Int), .int .i64 (l1.length : Int)] 40 (0, 0)) (by (with_reducible repeat (first | refine blk_drewN ?_ _ | refine blk_drew ?_ | refine blk_alloc ?_ _)); exact BK219.out) hg (Kd.N_ne HO_8.out BK219.out (by decide)))
                have n5_ := Aside0.mk (Kd.V_afterv (ok := (fun k_ => ((P0_ k_ ∨ P1_ k_) ∨ w.heap.size ≤ k_) ∧ some k_ ≠ (.slice Ao8 t214.length co8 : Value).ownBlock ∧ k_ ≠ gb218 ∧ k_ ≠ gb219)) (by (with_reducible repeat (first | apply Kd.V_alloc | apply Kd.V_drewN | apply Kd.V_drew)); exact Kd.V_mono HO253.out (fun _ hk => ⟨⟨hk.1, ⟨hk.2.1, ⟨hk.2.2.2.1, hk.2.2.2.2⟩⟩⟩, hk.2.2.1⟩)) hg hat)
                have n6_ := Aside0.mk (Kd.V_afterv (ok := (fun k_ => ((P0_ k_ ∨ P1_ k_) ∨ w.heap.size ≤ k_) ∧ some k_ ≠ (.slice Ao8 t214.length co8 : Value).ownBlock ∧ k_ ≠ gb218 ∧ k_ ≠ gb219)) (by (with_reducible repeat (first | apply Kd.V_alloc | apply Kd.V_drewN | apply Kd.V_drew)); exact Kd.V_mono HO258.out (fun _ hk => ⟨⟨hk.1, ⟨hk.2.1, ⟨hk.2.2.2.1, hk.2.2.2.2⟩⟩⟩, hk.2.2.1⟩)) hg hat)
                have n7_ := Aside0.mk (hb)
                have n8_ := Aside0.mk (ho)
                clear HO_0
                clear HO_1
                clear HO_6
                clear BK218
                clear BK219
                clear HO253
                clear HO258
                clear HB
                clear HO_8
                have HO_0 := n0_
                have HO_1 := n1_
                have HO_6 := n2_
                have BK218 := n3_
                have BK219 := n4_
                have HO253 := n5_
                have HO258 := n6_
                have HB := n7_
                have HO261 := n8_
                clear n0_ n1_ n2_ n3_ n4_ n5_ n6_ n7_ n8_
                clear ho hb hg hat
                refine hK.out _ _ ⟨(blk_cell BK218.out 0).trans rfl, (blk_cell BK218.out 1).trans rfl, (blk_cell BK219.out 0).trans rfl, (blk_cell BK219.out 1).trans rfl⟩ (fun hHeld => ?_)
                clear hK K
                refine norm_ (a' := ?_) ?_ ?_
                rotate_left
                ·show Act.put _ (some 89) _ = _
                 simp only [Act.put, List.setIfInBounds_toArray, List.set_cons_zero, List.set_cons_succ, i64_w, i32_w]
                 rfl
                refine pure_ (i := 20) (N := some 8) (v := ?_) (a' := ?_) (vb 2097151 21) rfl rfl (any_of HT_.out (by kernel_rfl)) (fun _ _ _ h => h) (Or.inl ⟨by rfl, ?_⟩) ?_ ?_
                rotate_left
                ·intro w'
                 go_simp
                 with_reducible rfl
                rotate_left
                ·simp only [Act.put, List.setIfInBounds_toArray, List.set_cons_zero, List.set_cons_succ, i64_w, i32_w]
                 rfl
                refine done_ (done_of HT_.out (by kernel_rfl)) ?_
                try go_wp2
                go_roundg kj6
                case measure => have := HK1.out; have := HJ6.out; omega
                case rel => exact ⟨(y259), (wrap64 (x9_1 + 1)), (by first | rfl | (simp; done) | (simp [*]; done)), H', ⟨by have := HK1.out; have := HJ6.out; omega⟩, ⟨by (with_reducible repeat (first | apply Kd.V_alloc | apply Kd.V_drewN | apply Kd.V_drew)); exact Kd.V_mono HO_0.out (fun _ hk => ⟨hk.1.1, ⟨hk.1.2.1, hk.2⟩⟩)⟩, ⟨by (with_reducible repeat (first | apply Kd.V_alloc | apply Kd.V_drewN | apply Kd.V_drew)); exact Kd.V_mono HO_1.out (fun _ hk => ⟨hk.1.1, ⟨hk.1.2.1, hk.2⟩⟩)⟩, ⟨by (with_reducible repeat (first | apply Kd.R_alloc | apply Kd.R_drewN | apply Kd.R_drew)); exact Kd.R_mono HO_6.out (fun _ hk => hk.1)⟩, ⟨by (with_reducible repeat (first | apply Kd.N_alloc | apply Kd.N_drewN | apply Kd.N_drew)); exact Kd.N_mono HO261.out (fun _ hk => ⟨hk.1, hk.2.1⟩)⟩, ⟨by repeat (first | (with_reducible first | exact HB.out | apply below_alloc | apply pw_below_drewN | apply below_drew1 | refine below_set ?_ GE218.out | refine below_set ?_ GE219.out) | exact HB.out)⟩⟩
               ·rw [if_neg c66] at H
                exact absurd H (by simp)
              ·rw [if_neg c65] at H
               exact absurd H (by simp)
             ·rw [if_neg c64] at H
              exact absurd H (by simp)
            ·rw [if_neg c63] at H
             exact absurd H (by simp)
           ·rw [if_neg c62] at H
            exact absurd H (by simp)
          ·rw [if_neg c61] at H
           exact absurd H (by simp)
         ·rw [if_neg c60] at H
          exact absurd H (by simp)
        ·rw [if_neg c59] at H
         have c59b0 : decide (x219000_6 < (l0.length : Int)) = false := decide_eq_false c59
         clear c59
         by_cases c74 : x219001_6 < (l1.length : Int)
         ·rw [if_pos c74] at H
          have c74b0 : decide (x219001_6 < (l1.length : Int)) = true := decide_eq_true c74
          clear c74
          by_cases c75 : 0 ≤ x219000_6
          ·rw [if_pos c75] at H
           have c75b0 := eq_true c75
           have c75b1 : decide (0 ≤ x219000_6) = true := decide_eq_true c75
           clear c75
           by_cases c76 : x219000_6 ≤ (l0.length : Int)
           ·rw [if_pos c76] at H
            have c76b0 := eq_true c76
            have c76b1 : decide (x219000_6 ≤ (l0.length : Int)) = true := decide_eq_true c76
            clear c76
            by_cases c77 : (l0.length : Int) ≤ (l0.length : Int)
            ·rw [if_pos c77] at H
             have c77b0 := eq_true c77
             have c77b1 : decide ((l0.length : Int) ≤ (l0.length : Int)) = true := decide_eq_true c77
             clear c77
             obtain ⟨y262, hy262⟩ : ∃ y_ : List ByteArray, y_ = ((l0.take ((l0.length : Int) : Int).toNat).drop (x219000_6 : Int).toNat) := ⟨_, rfl⟩
             replace H : (if 0 ≤ x219001_6 then (if x219001_6 ≤ (l1.length : Int) then (if (l1.length : Int) ≤ (l1.length : Int) then (if x8_1.length < 2199023255552 then (forebearref05_Hunks.l0 kj6 l0 l1 t214 (x8_1 ++ [(⟨x219000_6, x219001_6, y262, ((l1.take ((l1.length : Int) : Int).toNat).drop (x219001_6 : Int).toNat)⟩ : S47)]) (wrap64 (x9_1 + 1))) else (none)) else (none)) else (none)) else (none)) = some (r1, r2) := by first | (rw [hy262]; with_reducible exact H) | (have H2_ := (Option.bind_some _ _).symm.trans H; rw [hy262]; with_reducible exact H2_) | (have H2_ := (Option.bind_some _ _).symm.trans H; with_reducible exact H2_) | with_reducible exact H | (rw [hy262]; exact H) | exact H
             have Ny262 := Aside0.mk hy262
             clear hy262
             by_cases c78 : 0 ≤ x219001_6
             ·rw [if_pos c78] at H
              have c78b0 := eq_true c78
              have c78b1 : decide (0 ≤ x219001_6) = true := decide_eq_true c78
              clear c78
              by_cases c79 : x219001_6 ≤ (l1.length : Int)
              ·rw [if_pos c79] at H
               have c79b0 := eq_true c79
               have c79b1 : decide (x219001_6 ≤ (l1.length : Int)) = true := decide_eq_true c79
               clear c79
               by_cases c80 : (l1.length : Int) ≤ (l1.length : Int)
               ·rw [if_pos c80] at H
                have c80b0 := eq_true c80
                have c80b1 : decide ((l1.length : Int) ≤ (l1.length : Int)) = true := decide_eq_true c80
                clear c80
                obtain ⟨y267, hy267⟩ : ∃ y_ : List ByteArray, y_ = ((l1.take ((l1.length : Int) : Int).toNat).drop (x219001_6 : Int).toNat) := ⟨_, rfl⟩
                replace H : (if x8_1.length < 2199023255552 then (forebearref05_Hunks.l0 kj6 l0 l1 t214 (x8_1 ++ [(⟨x219000_6, x219001_6, y262, y267⟩ : S47)]) (wrap64 (x9_1 + 1))) else (none)) = some (r1, r2) := by first | (rw [hy267]; with_reducible exact H) | (have H2_ := (Option.bind_some _ _).symm.trans H; rw [hy267]; with_reducible exact H2_) | (have H2_ := (Option.bind_some _ _).symm.trans H; with_reducible exact H2_) | with_reducible exact H | (rw [hy267]; exact H) | exact H
                have Ny267 := Aside0.mk hy267
                clear hy267
                by_cases c81 : x8_1.length < 2199023255552
                ·rw [if_pos c81] at H
                 have LMc81 := Aside0.mk c81
                 clear c81
                 obtain ⟨y272, hy272⟩ : ∃ y_ : List (S47), y_ = (x8_1 ++ [(⟨x219000_6, x219001_6, y262, y267⟩ : S47)]) := ⟨_, rfl⟩
                 replace H : (forebearref05_Hunks.l0 kj6 l0 l1 t214 y272 (wrap64 (x9_1 + 1))) = some (r1, r2) := by first | (rw [hy272]; with_reducible exact H) | (have H2_ := (Option.bind_some _ _).symm.trans H; rw [hy272]; with_reducible exact H2_) | (have H2_ := (Option.bind_some _ _).symm.trans H; with_reducible exact H2_) | with_reducible exact H | (rw [hy272]; exact H) | exact H
                 have Ny272 := Aside0.mk hy272
                 clear hy272
                 have H' := Aside0.mk H
                 clear H
                 have hnb82 := NB218_219.out
                 have hnc82 := NB219_218.out
                 have hcz83_0 : wc.cell? ⟨gb218, 0, none⟩ = some (.int .i64 x219000_6) := (blk_cell BK218.out 0).trans rfl
                 have hcz83_1 : wc.cell? ⟨gb218, 1, none⟩ = some (.int .i64 x219001_6) := (blk_cell BK218.out 1).trans rfl
                 have hfz83_0 := blk_frozen BK218.out 0
                 have hfz83_1 := blk_frozen BK218.out 1
                 have hcz84_0 : wc.cell? ⟨gb219, 0, none⟩ = some (.int .i64 (l0.length : Int)) := (blk_cell BK219.out 0).trans rfl
                 have hcz84_1 : wc.cell? ⟨gb219, 1, none⟩ = some (.int .i64 (l1.length : Int)) := (blk_cell BK219.out 1).trans rfl
                 have hfz84_0 := blk_frozen BK219.out 0
                 have hfz84_1 := blk_frozen BK219.out 1
                 try go_wp2
                 have n0_ := Aside0.mk (Kd.V_drew HO_0.out)
                 have n1_ := Aside0.mk (Kd.V_drew HO_1.out)
                 have n2_ := Aside0.mk (Kd.R_drew HO_6.out)
                 have n3_ := Aside0.mk (Kd.N_drew HO_8.out)
                 have n4_ := Aside0.mk (blk_drew BK218.out)
                 have n5_ := Aside0.mk (blk_drew BK219.out)
                 have n6_ := Aside0.mk (below_drew1 HB.out)
                 clear HO_0
                 clear HO_1
                 clear HO_6
                 clear HO_8
                 clear BK218
                 clear BK219
                 clear HB
                 have HO_0 := n0_
                 have HO_1 := n1_
                 have HO_6 := n2_
                 have HO_8 := n3_
                 have BK218 := n4_
                 have BK219 := n5_
                 have HB := n6_
                 clear n0_ n1_ n2_ n3_ n4_ n5_ n6_
                 have q86 : ((l0.length : Int) : Int) ≤ ((l0.length : Int) : Int) := of_decide_eq_true (by first | (with_reducible assumption) | assumption)
                 obtain ⟨i086, hi086, _, hsz86, _⟩ := info_parts info9
                 have hroom86 : l0.length ≤ c0 := (Kd.V_reads' HO_0.out).2.1
                 have hC86 : Kd.F Kd.string _ _ A0 l0.length l0 := (Kd.V_at (base := w.heap.size) HO_0.out).2.2
                 have ql86 : (x219000_6 : Int) ≤ ((l0.length : Int) : Int) := of_decide_eq_true (by first | (with_reducible assumption) | assumption)
                 have q086 : (0 : Int) ≤ (x219000_6 : Int) := of_decide_eq_true (by first | (with_reducible assumption) | assumption)
                 have hcut86 := cut_mid (P := Try.prog) 22 9 .i64 .i64 Try.underlying22 hi086 1 hsz86 A0 l0.length c0 x219000_6 (l0.length : Int) q086 ql86 q86 hroom86
                 have hr86 := Kd.F_mid (lo := (x219000_6 : Int).toNat) (hi := ((l0.length : Int) : Int).toNat) (c := c0) hC86 (by omega) (by omega) hroom86
                 obtain ⟨A86, hA86⟩ : ∃ A1, A1 = (if c0 = (x219000_6 : Int).toNat then A0 else (A0 : Option Addr).map (·.add ((x219000_6 : Int).toNat * 1))) := ⟨_, rfl⟩
                 obtain ⟨c86, hc86⟩ : ∃ c1, c1 = c0 - (x219000_6 : Int).toNat := ⟨_, rfl⟩
                 have hy86 : y262.length = ((l0.length : Int) : Int).toNat - (x219000_6 : Int).toNat := (by rw [Ny262.out, List.length_drop, List.length_take] <;> omega)
                 rw [show ((l0).take ((l0.length : Int) : Int).toNat).drop (x219000_6 : Int).toNat = y262 from Ny262.out.symm] at hr86
                 replace hr86 : Kd.F Kd.string _ _ A86 y262.length y262 := (by rw [hA86]; exact hr86)
                 rw [← hy86, ← hA86, ← hc86] at hcut86
                 have HO266 := Aside0.mk (show Kd.V Kd.string 9 _ w.heap.size _ (.slice A86 y262.length c86) y262 from Kd.V_mk (by rw [hy86, hc86]; exact Nat.sub_le_sub_right (Nat.le_trans (by omega) hroom86) _) hr86)
                 have HC266 := Aside0.mk (show y262.length ≤ c86 from by rw [hy86, hc86]; exact Nat.sub_le_sub_right (Nat.le_trans (by omega) hroom86) _)
                 clear hr86 hC86 hroom86 hi086 hsz86 hc86
                 have KY86 := Aside0.mk hy86
                 have KA86 := Aside0.mk hA86
                 clear hy86 hA86
                 replace q86 := eq_true q86
                 have q87 : ((l1.length : Int) : Int) ≤ ((l1.length : Int) : Int) := of_decide_eq_true (by first | (with_reducible assumption) | assumption)
                 obtain ⟨i087, hi087, _, hsz87, _⟩ := info_parts info9
                 have hroom87 : l1.length ≤ c1 := (Kd.V_reads' HO_1.out).2.1
                 have hC87 : Kd.F Kd.string _ _ A1 l1.length l1 := (Kd.V_at (base := w.heap.size) HO_1.out).2.2
                 have ql87 : (x219001_6 : Int) ≤ ((l1.length : Int) : Int) := of_decide_eq_true (by first | (with_reducible assumption) | assumption)
                 have q087 : (0 : Int) ≤ (x219001_6 : Int) := of_decide_eq_true (by first | (with_reducible assumption) | assumption)
                 have hcut87 := cut_mid (P := Try.prog) 22 9 .i64 .i64 Try.underlying22 hi087 1 hsz87 A1 l1.length c1 x219001_6 (l1.length : Int) q087 ql87 q87 hroom87
                 have hr87 := Kd.F_mid (lo := (x219001_6 : Int).toNat) (hi := ((l1.length : Int) : Int).toNat) (c := c1) hC87 (by omega) (by omega) hroom87
                 obtain ⟨A87, hA87⟩ : ∃ Az_, Az_ = (if c1 = (x219001_6 : Int).toNat then A1 else (A1 : Option Addr).map (·.add ((x219001_6 : Int).toNat * 1))) := ⟨_, rfl⟩
                 obtain ⟨c87, hc87⟩ : ∃ cz_, cz_ = c1 - (x219001_6 : Int).toNat := ⟨_, rfl⟩
                 have hy87 : y267.length = ((l1.length : Int) : Int).toNat - (x219001_6 : Int).toNat := (by rw [Ny267.out, List.length_drop, List.length_take] <;> omega)
                 rw [show ((l1).take ((l1.length : Int) : Int).toNat).drop (x219001_6 : Int).toNat = y267 from Ny267.out.symm] at hr87
                 replace hr87 : Kd.F Kd.string _ _ A87 y267.length y267 := (by rw [hA87]; exact hr87)
                 rw [← hy87, ← hA87, ← hc87] at hcut87
                 have HO271 := Aside0.mk (show Kd.V Kd.string 9 _ w.heap.size _ (.slice A87 y267.length c87) y267 from Kd.V_mk (by rw [hy87, hc87]; exact Nat.sub_le_sub_right (Nat.le_trans (by omega) hroom87) _) hr87)
                 have HC271 := Aside0.mk (show y267.length ≤ c87 from by rw [hy87, hc87]; exact Nat.sub_le_sub_right (Nat.le_trans (by omega) hroom87) _)
                 clear hr87 hC87 hroom87 hi087 hsz87 hc87
                 have KY87 := Aside0.mk hy87
                 have KA87 := Aside0.mk hA87
                 clear hy87 hA87
                 replace q87 := eq_true q87
                 refine start_ (n := 21) (S := fun w' => w'.cell? ⟨gb218, 0, none⟩ = some (.int .i64 x219000_6) ∧ w'.cell? ⟨gb218, 1, none⟩ = some (.int .i64 x219001_6) ∧ w'.cell? ⟨gb219, 0, none⟩ = some (.int .i64 (l0.length : Int)) ∧ w'.cell? ⟨gb219, 1, none⟩ = some (.int .i64 (l1.length : Int))) (ds := []) (vb 0 21) (by kernel_rfl) rfl rfl ⟨(blk_cell BK218.out 0).trans rfl, (blk_cell BK218.out 1).trans rfl, (blk_cell BK219.out 0).trans rfl, (blk_cell BK219.out 1).trans rfl⟩ (fun hHeld => ?_); refine with_tabW forebearref05_Hunks.tab15 forebearref05_Hunks.bits15 (fun HT_ HW_ => ?_)
                 generalize wc.drew = w85 at HO_0 HO_1 HO_6 HO_8 BK218 BK219 HB HO266 HO271 hHeld ⊢
                 refine pure_ (i := 0) (N := some 70) (v := ?_) (a' := ?_) (vb 1 21) rfl rfl (any_of HT_.out (by kernel_rfl)) (fun _ _ _ h => h) (Or.inl ⟨by rfl, ?_⟩) ?_ ?_
                 rotate_left
                 ·intro w'
                  go_simp
                  with_reducible rfl
                 rotate_left
                 ·simp only [Act.put, List.setIfInBounds_toArray, List.set_cons_zero, List.set_cons_succ, i64_w, i32_w]
                  rfl
                 refine pure_ (i := 1) (N := some 71) (v := ?_) (a' := ?_) (vb 3 21) rfl rfl (any_of HT_.out (by kernel_rfl)) (fun _ _ _ h => h) (Or.inl ⟨by rfl, ?_⟩) ?_ ?_
                 rotate_left
                 ·intro w'
                  go_simp
                  with_reducible rfl
                 rotate_left
                 ·simp only [Act.put, List.setIfInBounds_toArray, List.set_cons_zero, List.set_cons_succ, i64_w, i32_w]
                  rfl
                 refine pure_ (i := 3) (N := some 73) (v := ?_) (a' := ?_) (vb 11 21) rfl rfl (any_of HT_.out (by kernel_rfl)) (fun _ _ _ h => h) (Or.inl ⟨by rfl, ?_⟩) ?_ ?_
                 rotate_left
                 ·intro w'
                  go_simp
                  with_reducible rfl
                 rotate_left
                 ·simp only [Act.put, List.setIfInBounds_toArray, List.set_cons_zero, List.set_cons_succ, i64_w, i32_w]
                  rfl
                 refine pure_ (i := 5) (N := some 75) (v := ?_) (a' := ?_) (vb 43 21) rfl rfl (any_of HT_.out (by kernel_rfl)) (fun _ _ _ h => h) (Or.inl ⟨by rfl, ?_⟩) ?_ ?_
                 rotate_left
                 ·intro w'
                  go_simp
                  with_reducible rfl
                 rotate_left
                 ·simp only [Act.put, List.setIfInBounds_toArray, List.set_cons_zero, List.set_cons_succ, i64_w, i32_w]
                  rfl
                 refine pure_ (i := 6) (N := some 76) (v := ?_) (a' := ?_) (vb 107 21) rfl rfl (any_of HT_.out (by kernel_rfl)) (fun _ _ _ h => h) (Or.inl ⟨by rfl, ?_⟩) ?_ ?_
                 rotate_left
                 ·intro w'
                  go_simp
                  with_reducible rfl
                 rotate_left
                 ·simp only [Act.put, List.setIfInBounds_toArray, List.set_cons_zero, List.set_cons_succ, i64_w, i32_w]
                  rfl
                 refine pure_ (i := 8) (N := some 78) (v := ?_) (a' := ?_) (vb 363 21) rfl rfl (any_of HT_.out (by kernel_rfl)) (fun _ _ _ h => h) (Or.inl ⟨by rfl, ?_⟩) ?_ ?_
                 rotate_left
                 ·intro w'
                  go_simp
                  with_reducible rfl
                 rotate_left
                 ·simp only [Act.put, List.setIfInBounds_toArray, List.set_cons_zero, List.set_cons_succ, i64_w, i32_w]
                  rfl
                 refine pure_ (i := 11) (N := some 81) (v := ?_) (a' := ?_) (vb 2411 21) rfl rfl (any_of HT_.out (by kernel_rfl)) (fun _ _ _ h => h) (Or.inl ⟨by rfl, ?_⟩) ?_ ?_
                 rotate_left
                 ·intro w'
                  go_simp
                  with_reducible rfl
                 rotate_left
                 ·simp only [Act.put, List.setIfInBounds_toArray, List.set_cons_zero, List.set_cons_succ, i64_w, i32_w]
                  rfl
                 refine pure_ (i := 12) (N := some 82) (v := ?_) (a' := ?_) (vb 6507 21) rfl rfl (any_of HT_.out (by kernel_rfl)) (fun _ _ _ h => h) (Or.inl ⟨by rfl, ?_⟩) ?_ ?_
                 rotate_left
                 ·intro w'
                  go_simp
                  with_reducible rfl
                 rotate_left
                 ·simp only [Act.put, List.setIfInBounds_toArray, List.set_cons_zero, List.set_cons_succ, i64_w, i32_w]
                  rfl
                 refine pure_ (i := 14) (N := some 84) (v := ?_) (a' := ?_) (vb 22891 21) rfl rfl (any_of HT_.out (by kernel_rfl)) (fun _ _ _ h => h) (Or.inl ⟨by rfl, ?_⟩) ?_ ?_
                 rotate_left
                 ·intro w'
                  go_simp
                  with_reducible rfl
                 rotate_left
                 ·simp only [Act.put, List.setIfInBounds_toArray, List.set_cons_zero, List.set_cons_succ, i64_w, i32_w]
                  rfl
                 refine take_ (i := 2) (N := some 72) (v := ?_) (a' := ?_) (vb 22895 21) rfl rfl (take_ofW HT_.out HW_.out (by kernel_rfl)) (fun _ _ _ h => h) (Or.inl ⟨by rfl, ?_⟩) hHeld ?_ ?_
                 rotate_left
                 ·rintro w' ⟨s0, s1, s2, s3⟩
                  go_simp
                  with_reducible rfl
                 rotate_left
                 ·simp only [Act.put, List.setIfInBounds_toArray, List.set_cons_zero, List.set_cons_succ, i64_w, i32_w]
                  rfl
                 refine take_ (i := 4) (N := some 74) (v := ?_) (a' := ?_) (vb 22911 21) rfl rfl (take_ofW HT_.out HW_.out (by kernel_rfl)) (fun _ _ _ h => h) (Or.inl ⟨by rfl, ?_⟩) hHeld ?_ ?_
                 rotate_left
                 ·rintro w' ⟨s0, s1, s2, s3⟩
                  go_simp
                  with_reducible rfl
                 rotate_left
                 ·simp only [Act.put, List.setIfInBounds_toArray, List.set_cons_zero, List.set_cons_succ, i64_w, i32_w]
                  rfl
                 refine take_ (i := 7) (N := some 77) (v := ?_) (a' := ?_) (vb 23039 21) rfl rfl (take_ofW HT_.out HW_.out (by kernel_rfl)) (fun _ _ _ h => h) (Or.inl ⟨by rfl, ?_⟩) hHeld ?_ ?_
                 rotate_left
                 ·rintro w' ⟨s0, s1, s2, s3⟩
                  go_simp
                  with_reducible rfl
                 rotate_left
                 ·simp only [Act.put, List.setIfInBounds_toArray, List.set_cons_zero, List.set_cons_succ, i64_w, i32_w]
                  rfl
                 refine take_ (i := 9) (N := some 79) (v := ?_) (a' := ?_) (vb 23551 21) rfl rfl (take_ofW HT_.out HW_.out (by kernel_rfl)) (fun _ _ _ h => h) (Or.inl ⟨by rfl, ?_⟩) hHeld ?_ ?_
                 rotate_left
                 ·rintro w' ⟨s0, s1, s2, s3⟩
                  go_simp
                  with_reducible rfl
                 rotate_left
                 ·simp only [Act.put, List.setIfInBounds_toArray, List.set_cons_zero, List.set_cons_succ, i64_w, i32_w]
                  rfl
                 refine pure_ (i := 10) (N := some 80) (v := ?_) (a' := ?_) (vb 24575 21) rfl rfl (any_of HT_.out (by kernel_rfl)) (fun _ _ _ h => h) (Or.inl ⟨by rfl, ?_⟩) ?_ ?_
                 rotate_left
                 ·intro w'
                  go_simp
                  with_reducible rfl
                 rotate_left
                 ·simp only [Act.put, List.setIfInBounds_toArray, List.set_cons_zero, List.set_cons_succ, i64_w, i32_w]
                  rfl
                 refine take_ (i := 13) (N := some 83) (v := ?_) (a' := ?_) (vb 32767 21) rfl rfl (take_ofW HT_.out HW_.out (by kernel_rfl)) (fun _ _ _ h => h) (Or.inl ⟨by rfl, ?_⟩) hHeld ?_ ?_
                 rotate_left
                 ·rintro w' ⟨s0, s1, s2, s3⟩
                  go_simp
                  with_reducible rfl
                 rotate_left
                 ·simp only [Act.put, List.setIfInBounds_toArray, List.set_cons_zero, List.set_cons_succ, i64_w, i32_w]
                  rfl
                 refine take_ (i := 15) (N := some 85) (v := ?_) (a' := ?_) (vb 65535 21) rfl rfl (take_ofW HT_.out HW_.out (by kernel_rfl)) (fun _ _ _ h => h) (Or.inl ⟨by rfl, ?_⟩) hHeld ?_ ?_
                 rotate_left
                 ·rintro w' ⟨s0, s1, s2, s3⟩
                  go_simp
                  with_reducible rfl
                 rotate_left
                 ·simp only [Act.put, List.setIfInBounds_toArray, List.set_cons_zero, List.set_cons_succ, i64_w, i32_w]
                  rfl
                 refine pure_ (i := 16) (N := some 86) (v := ?_) (a' := ?_) (vb 131071 21) rfl rfl (any_of HT_.out (by kernel_rfl)) (fun _ _ _ h => h) (Or.inl ⟨by rfl, ?_⟩) ?_ ?_
                 rotate_left
                 ·intro w'
                  go_simp
                  with_reducible rfl
                 rotate_left
                 ·simp only [Act.put, List.setIfInBounds_toArray, List.set_cons_zero, List.set_cons_succ, i64_w, i32_w]
                  rfl
                 refine pure_ (i := 17) (N := some 87) (v := ?_) (a' := ?_) (vb 262143 21) rfl rfl (any_of HT_.out (by kernel_rfl)) (fun _ _ _ h => h) (Or.inl ⟨by rfl, ?_⟩) ?_ ?_
                 rotate_left
                 ·intro w'
                  go_simp
                  with_reducible rfl
                 rotate_left
                 ·simp only [Act.put, List.setIfInBounds_toArray, List.set_cons_zero, List.set_cons_succ, i64_w, i32_w]
                  rfl
                 refine one_ (i := 18) (N := some 88) (vb 524287 21) rfl rfl (one_of HT_.out (by kernel_rfl)) (by decide) (fun K hK => ?_)
                 refine value_ (w1 := ?_) (v := ?_) (by rfl) rfl ?_ ?_
                 rotate_left 2
                 ·go_simp
                  constructor
                  ·rfl
                  ·rfl
                 refine hK.out _ _ ⟨(blk_cell (blk_alloc BK218.out _) 0).trans rfl, (blk_cell (blk_alloc BK218.out _) 1).trans rfl, (blk_cell (blk_alloc BK219.out _) 0).trans rfl, (blk_cell (blk_alloc BK219.out _) 1).trans rfl⟩ (fun hHeld => ?_)
                 clear hK K
                 refine norm_ (a' := ?_) ?_ ?_
                 rotate_left
                 ·show Act.put _ (some 88) _ = _
                  simp only [Act.put, List.setIfInBounds_toArray, List.set_cons_zero, List.set_cons_succ, i64_w, i32_w]
                  rfl
                 refine one_ (i := 19) (N := some 89) (vb 1048575 21) rfl rfl (one_of HT_.out (by kernel_rfl)) (by decide) (fun K hK => ?_)
                 refine Kd.N_append_step k47 (w0 := w) w.heap.size (by rfl) (.tmp 70) (.tmp 88) 34 47 (.agg #[(.int .i64 0), (.int .i64 0), (.slice none 0 0), (.slice none 0 0)]) 64 rfl Try.underlying34 info47 rfl (by decide) (by omega) u8 x8_1 (⟨x219000_6, x219001_6, y262, y267⟩ : S47) [.int .i64 x219000_6, .int .i64 x219001_6, .slice A86 y262.length c86, .slice A87 y267.length c87] (fun k_ => ((P0_ k_ ∨ P1_ k_) ∨ w.heap.size ≤ k_) ∧ some k_ ≠ (.slice Ao8 t214.length co8 : Value).ownBlock ∧ k_ ≠ gb218 ∧ k_ ≠ gb219) (fun k_ => ((fun k_ => ((P0_ k_ ∨ P1_ k_) ∨ w.heap.size ≤ k_) ∧ some k_ ≠ (.slice Ao8 t214.length co8 : Value).ownBlock ∧ k_ ≠ gb218 ∧ k_ ≠ gb219)) k_ ∧ some k_ ≠ (u8 : Value).ownBlock) rfl rfl ?aP (fun _ hk => hk) ?aF ?aO ?aB ?aS ?aL ?_
                 (case aP => exact (k47_mkF _ _ (⟨x219000_6, x219001_6, y262, y267⟩ : S47) (Kd.V_reads' (Kd.V_mono (e := 0) (base := 0) (ok' := (fun k_ => ((fun k_ => ((P0_ k_ ∨ P1_ k_) ∨ w.heap.size ≤ k_) ∧ some k_ ≠ (.slice Ao8 t214.length co8 : Value).ownBlock ∧ k_ ≠ gb218 ∧ k_ ≠ gb219)) k_ ∧ some k_ ≠ (u8 : Value).ownBlock)) (HO266.out) (fun k_ hk => ⟨⟨hk.1, ⟨hk.2.1, ⟨hk.2.2.2.1, hk.2.2.2.2⟩⟩⟩, hk.2.2.1⟩))).2.1 (Kd.V_F (Kd.V_mono (e := 0) (base := 0) (ok' := (fun k_ => ((fun k_ => ((P0_ k_ ∨ P1_ k_) ∨ w.heap.size ≤ k_) ∧ some k_ ≠ (.slice Ao8 t214.length co8 : Value).ownBlock ∧ k_ ≠ gb218 ∧ k_ ≠ gb219)) k_ ∧ some k_ ≠ (u8 : Value).ownBlock)) (HO266.out) (fun k_ hk => ⟨⟨hk.1, ⟨hk.2.1, ⟨hk.2.2.2.1, hk.2.2.2.2⟩⟩⟩, hk.2.2.1⟩))) (Kd.V_reads' (Kd.V_mono (e := 0) (base := 0) (ok' := (fun k_ => ((fun k_ => ((P0_ k_ ∨ P1_ k_) ∨ w.heap.size ≤ k_) ∧ some k_ ≠ (.slice Ao8 t214.length co8 : Value).ownBlock ∧ k_ ≠ gb218 ∧ k_ ≠ gb219)) k_ ∧ some k_ ≠ (u8 : Value).ownBlock)) (HO271.out) (fun k_ hk => ⟨⟨hk.1, ⟨hk.2.1, ⟨hk.2.2.2.1, hk.2.2.2.2⟩⟩⟩, hk.2.2.1⟩))).2.1 (Kd.V_F (Kd.V_mono (e := 0) (base := 0) (ok' := (fun k_ => ((fun k_ => ((P0_ k_ ∨ P1_ k_) ∨ w.heap.size ≤ k_) ∧ some k_ ≠ (.slice Ao8 t214.length co8 : Value).ownBlock ∧ k_ ≠ gb218 ∧ k_ ≠ gb219)) k_ ∧ some k_ ≠ (u8 : Value).ownBlock)) (HO271.out) (fun k_ hk => ⟨⟨hk.1, ⟨hk.2.1, ⟨hk.2.2.2.1, hk.2.2.2.2⟩⟩⟩, hk.2.2.1⟩)))))
                 (case aB => exact (by repeat (first | (with_reducible first | exact HB.out | apply below_alloc | apply pw_below_drewN | apply below_drew1 | refine below_set ?_ GE218.out | refine below_set ?_ GE219.out) | exact HB.out)))
                 (case aF => exact (fun k_ hk => ⟨(.inr (Nat.le_trans (below_size (by repeat (first | (with_reducible first | exact HB.out | apply below_alloc | apply pw_below_drewN | apply below_drew1 | refine below_set ?_ GE218.out | refine below_set ?_ GE219.out) | exact HB.out))) hk)), Kd.fresh' (Kd.R_lt (by (with_reducible repeat (first | apply Kd.R_alloc | apply Kd.R_drewN | apply Kd.R_drew)); exact HO_6.out)) k_ hk, Kd.freshB (g := gb218) (o := .cells #[.int .i64 x219000_6, .int .i64 x219001_6] 40 (0, 0)) (by (with_reducible repeat (first | refine blk_drewN ?_ _ | refine blk_drew ?_ | refine blk_alloc ?_ _)); exact BK218.out) k_ hk, Kd.freshB (g := gb219) (o := .cells #[.int .i64 (l0.length : Int), .int .i64 (l1.length : Int)] 40 (0, 0)) (by (with_reducible repeat (first | refine blk_drewN ?_ _ | refine blk_drew ?_ | refine blk_alloc ?_ _)); exact BK219.out) k_ hk⟩))
                 (case aO => exact (by (with_reducible repeat (first | apply Kd.N_alloc | apply Kd.N_drewN | apply Kd.N_drew)); exact HO_8.out))
                 (case aS => exact (below_size (by repeat (first | (with_reducible first | exact HB.out | apply below_alloc | apply pw_below_drewN | apply below_drew1 | refine below_set ?_ GE218.out | refine below_set ?_ GE219.out) | exact HB.out))))
                 (case aL => have := LMc81.out; omega)
                 intro v273 w88 ho hb hg hat
                 rw [← Ny272.out] at ho
                 have n0_ := Aside0.mk (Kd.V_afterv (ok := (fun k_ => ((P0_ k_ ∨ P1_ k_) ∨ w.heap.size ≤ k_) ∧ some k_ ≠ (.slice Ao8 t214.length co8 : Value).ownBlock ∧ k_ ≠ gb218 ∧ k_ ≠ gb219)) (by (with_reducible repeat (first | apply Kd.V_alloc | apply Kd.V_drewN | apply Kd.V_drew)); exact Kd.V_mono HO_0.out (fun _ hk => ⟨⟨hk.1, ⟨hk.2.1, ⟨hk.2.2.2.1, hk.2.2.2.2⟩⟩⟩, hk.2.2.1⟩)) hg hat)
                 have n1_ := Aside0.mk (Kd.V_afterv (ok := (fun k_ => ((P0_ k_ ∨ P1_ k_) ∨ w.heap.size ≤ k_) ∧ some k_ ≠ (.slice Ao8 t214.length co8 : Value).ownBlock ∧ k_ ≠ gb218 ∧ k_ ≠ gb219)) (by (with_reducible repeat (first | apply Kd.V_alloc | apply Kd.V_drewN | apply Kd.V_drew)); exact Kd.V_mono HO_1.out (fun _ hk => ⟨⟨hk.1, ⟨hk.2.1, ⟨hk.2.2.2.1, hk.2.2.2.2⟩⟩⟩, hk.2.2.1⟩)) hg hat)
                 have n2_ := Aside0.mk (Kd.R_over' (by (with_reducible repeat (first | apply Kd.R_alloc | apply Kd.R_drewN | apply Kd.R_drew)); exact HO_6.out) (Kd.N_typed (by (with_reducible repeat (first | apply Kd.N_alloc | apply Kd.N_drewN | apply Kd.N_drew)); exact HO_8.out)) (by decide) hg)
                 have n3_ := Aside0.mk (blk_grown (g := gb218) (o := .cells #[.int .i64 x219000_6, .int .i64 x219001_6] 40 (0, 0)) (by (with_reducible repeat (first | refine blk_drewN ?_ _ | refine blk_drew ?_ | refine blk_alloc ?_ _)); exact BK218.out) hg (Kd.N_ne HO_8.out BK218.out (by decide)))
                 have n4_ := Aside0.mk (blk_grown (g := gb219) (o := .cells #[.int .i64 (l0.length : Int), .int .i64 (l1.length : Int)] 40 (0, 0)) (by (with_reducible repeat (first | refine blk_drewN ?_ _ | refine blk_drew ?_ | refine blk_alloc ?_ _)); exact BK219.out) hg (Kd.N_ne HO_8.out BK219.out (by decide)))
                 have n5_ := Aside0.mk (Kd.V_afterv (ok := (fun k_ => ((P0_ k_ ∨ P1_ k_) ∨ w.heap.size ≤ k_) ∧ some k_ ≠ (.slice Ao8 t214.length co8 : Value).ownBlock ∧ k_ ≠ gb218 ∧ k_ ≠ gb219)) (by (with_reducible repeat (first | apply Kd.V_alloc | apply Kd.V_drewN | apply Kd.V_drew)); exact Kd.V_mono HO266.out (fun _ hk => ⟨⟨hk.1, ⟨hk.2.1, ⟨hk.2.2.2.1, hk.2.2.2.2⟩⟩⟩, hk.2.2.1⟩)) hg hat)
                 have n6_ := Aside0.mk (Kd.V_afterv (ok := (fun k_ => ((P0_ k_ ∨ P1_ k_) ∨ w.heap.size ≤ k_) ∧ some k_ ≠ (.slice Ao8 t214.length co8 : Value).ownBlock ∧ k_ ≠ gb218 ∧ k_ ≠ gb219)) (by (with_reducible repeat (first | apply Kd.V_alloc | apply Kd.V_drewN | apply Kd.V_drew)); exact Kd.V_mono HO271.out (fun _ hk => ⟨⟨hk.1, ⟨hk.2.1, ⟨hk.2.2.2.1, hk.2.2.2.2⟩⟩⟩, hk.2.2.1⟩)) hg hat)
                 have n7_ := Aside0.mk (hb)
                 have n8_ := Aside0.mk (ho)
                 clear HO_0
                 clear HO_1
                 clear HO_6
                 clear BK218
                 clear BK219
                 clear HO266
                 clear HO271
                 clear HB
                 clear HO_8
                 have HO_0 := n0_
                 have HO_1 := n1_
                 have HO_6 := n2_
                 have BK218 := n3_
                 have BK219 := n4_
                 have HO266 := n5_
                 have HO271 := n6_
                 have HB := n7_
                 have HO274 := n8_
                 clear n0_ n1_ n2_ n3_ n4_ n5_ n6_ n7_ n8_
                 clear ho hb hg hat
                 refine hK.out _ _ ⟨(blk_cell BK218.out 0).trans rfl, (blk_cell BK218.out 1).trans rfl, (blk_cell BK219.out 0).trans rfl, (blk_cell BK219.out 1).trans rfl⟩ (fun hHeld => ?_)
                 clear hK K
                 refine norm_ (a' := ?_) ?_ ?_
                 rotate_left
                 ·show Act.put _ (some 89) _ = _
                  simp only [Act.put, List.setIfInBounds_toArray, List.set_cons_zero, List.set_cons_succ, i64_w, i32_w]
                  rfl
                 refine pure_ (i := 20) (N := some 8) (v := ?_) (a' := ?_) (vb 2097151 21) rfl rfl (any_of HT_.out (by kernel_rfl)) (fun _ _ _ h => h) (Or.inl ⟨by rfl, ?_⟩) ?_ ?_
                 rotate_left
                 ·intro w'
                  go_simp
                  with_reducible rfl
                 rotate_left
                 ·simp only [Act.put, List.setIfInBounds_toArray, List.set_cons_zero, List.set_cons_succ, i64_w, i32_w]
                  rfl
                 refine done_ (done_of HT_.out (by kernel_rfl)) ?_
                 try go_wp2
                 go_roundg kj6
                 case measure => have := HK1.out; have := HJ6.out; omega
                 case rel => exact ⟨(y272), (wrap64 (x9_1 + 1)), (by first | rfl | (simp; done) | (simp [*]; done)), H', ⟨by have := HK1.out; have := HJ6.out; omega⟩, ⟨by (with_reducible repeat (first | apply Kd.V_alloc | apply Kd.V_drewN | apply Kd.V_drew)); exact Kd.V_mono HO_0.out (fun _ hk => ⟨hk.1.1, ⟨hk.1.2.1, hk.2⟩⟩)⟩, ⟨by (with_reducible repeat (first | apply Kd.V_alloc | apply Kd.V_drewN | apply Kd.V_drew)); exact Kd.V_mono HO_1.out (fun _ hk => ⟨hk.1.1, ⟨hk.1.2.1, hk.2⟩⟩)⟩, ⟨by (with_reducible repeat (first | apply Kd.R_alloc | apply Kd.R_drewN | apply Kd.R_drew)); exact Kd.R_mono HO_6.out (fun _ hk => hk.1)⟩, ⟨by (with_reducible repeat (first | apply Kd.N_alloc | apply Kd.N_drewN | apply Kd.N_drew)); exact Kd.N_mono HO274.out (fun _ hk => ⟨hk.1, hk.2.1⟩)⟩, ⟨by repeat (first | (with_reducible first | exact HB.out | apply below_alloc | apply pw_below_drewN | apply below_drew1 | refine below_set ?_ GE218.out | refine below_set ?_ GE219.out) | exact HB.out)⟩⟩
                ·rw [if_neg c81] at H
                 exact absurd H (by simp)
               ·rw [if_neg c80] at H
                exact absurd H (by simp)
              ·rw [if_neg c79] at H
               exact absurd H (by simp)
             ·rw [if_neg c78] at H
              exact absurd H (by simp)
            ·rw [if_neg c77] at H
             exact absurd H (by simp)
           ·rw [if_neg c76] at H
            exact absurd H (by simp)
          ·rw [if_neg c75] at H
           exact absurd H (by simp)
         ·rw [if_neg c74] at H
          have c74b0 : decide (x219001_6 < (l1.length : Int)) = false := decide_eq_false c74
          clear c74
          have H' := Aside0.mk H
          clear H
          have hnb89 := NB218_219.out
          have hnc89 := NB219_218.out
          have hcz90_0 : wc.cell? ⟨gb218, 0, none⟩ = some (.int .i64 x219000_6) := (blk_cell BK218.out 0).trans rfl
          have hcz90_1 : wc.cell? ⟨gb218, 1, none⟩ = some (.int .i64 x219001_6) := (blk_cell BK218.out 1).trans rfl
          have hfz90_0 := blk_frozen BK218.out 0
          have hfz90_1 := blk_frozen BK218.out 1
          have hcz91_0 : wc.cell? ⟨gb219, 0, none⟩ = some (.int .i64 (l0.length : Int)) := (blk_cell BK219.out 0).trans rfl
          have hcz91_1 : wc.cell? ⟨gb219, 1, none⟩ = some (.int .i64 (l1.length : Int)) := (blk_cell BK219.out 1).trans rfl
          have hfz91_0 := blk_frozen BK219.out 0
          have hfz91_1 := blk_frozen BK219.out 1
          go_wp2
          go_roundg kj6
          case measure => have := HK1.out; have := HJ6.out; omega
          case rel => exact ⟨(x8_1), (wrap64 (x9_1 + 1)), (by first | rfl | (simp; done) | (simp [*]; done)), H', ⟨by have := HK1.out; have := HJ6.out; omega⟩, ⟨by (with_reducible repeat (first | apply Kd.V_alloc | apply Kd.V_drewN | apply Kd.V_drew)); exact Kd.V_mono HO_0.out (fun _ hk => ⟨hk.1, ⟨hk.2.1, hk.2.2.1⟩⟩)⟩, ⟨by (with_reducible repeat (first | apply Kd.V_alloc | apply Kd.V_drewN | apply Kd.V_drew)); exact Kd.V_mono HO_1.out (fun _ hk => ⟨hk.1, ⟨hk.2.1, hk.2.2.1⟩⟩)⟩, ⟨by (with_reducible repeat (first | apply Kd.R_alloc | apply Kd.R_drewN | apply Kd.R_drew)); exact Kd.R_mono HO_6.out (fun _ hk => hk.1)⟩, ⟨by (with_reducible repeat (first | apply Kd.N_alloc | apply Kd.N_drewN | apply Kd.N_drew)); exact Kd.N_mono HO_8.out (fun _ hk => ⟨hk.1, hk.2.1⟩)⟩, ⟨by repeat (first | (with_reducible first | exact HB.out | apply below_alloc | apply pw_below_drewN | apply below_drew1 | refine below_set ?_ GE218.out | refine below_set ?_ GE219.out) | exact HB.out)⟩⟩
    ·rw [if_neg c6] at H
     have c6b0 : decide (x9_1 ≤ (t214.length : Int)) = false := decide_eq_false c6
     clear c6
     simp only [Option.some.injEq, Prod.mk.injEq] at H
     obtain ⟨rfl, rfl⟩ := H
     obtain ⟨Ao92, co92, eo92⟩ := Kd.R_slice HO_6.out
     subst eo92
     go_wp2
     go_ret2
     exact ⟨_, by first | rfl | (simp [errW_none, errW_some] <;> rfl) | (simp [*, errW_none, errW_some] <;> rfl), by (with_reducible repeat (first | apply Kd.N_alloc | apply Kd.N_drewN | apply Kd.N_drew)); exact Kd.N_mono HO_8.out (fun _ hk => hk.1), by repeat (first | (with_reducible first | exact HB.out | apply below_alloc | apply pw_below_drewN | apply below_drew1) | exact HB.out)⟩
 ·rw [if_neg c4] at H
  have c4b0 : (t215 == 0) = false := beq_eq_false_iff_ne.mpr c4
  have c4b1 : (t215 != 0) = true := bne_iff_ne.mpr c4
  simp only [Option.some.injEq, Prod.mk.injEq] at H
  obtain ⟨rfl, rfl⟩ := H
  go_enter Try.func16, Try.ntmps16
  go_wp2_with (first | ((with_reducible refine gate_callee (f := 14) rfl ?_); refine goesL_ (some 15) rfl rfl Try.func14 (by kernel_rfl) rfl #[.slice A0 l0.length c0, .slice A1 l1.length c1] rfl (by (try simp only [List.map_toArray, List.map_cons, List.map_nil]); first | done | rfl | (simp only [List.length_drop, List.length_take]; rfl)) ?_; (with_reducible refine (forebearref05_Match.calls k _ _ l0 _ _ l1 t214 t215 _ ?side1 ?side2 ?side3 ?side4 A3.out).mono ?_); (case side1 => repeat (first | exact (Kd.V_reads' HO0.out).2.2 | (with_reducible refine Kd.C_alloc ?_ _) | (with_reducible refine Kd.C_drewN ?_ _) | (with_reducible refine Kd.C_drew ?_))); (case side2 => exact (Kd.V_reads' HO0.out).2.1); (case side3 => repeat (first | exact (Kd.V_reads' HO1.out).2.2 | (with_reducible refine Kd.C_alloc ?_ _) | (with_reducible refine Kd.C_drewN ?_ _) | (with_reducible refine Kd.C_drew ?_))); (case side4 => exact (Kd.V_reads' HO1.out).2.1); rintro e w93 ⟨v216, rfl, ho0, hb⟩; refine ⟨_, rfl, ?_⟩; have n0_ := Aside0.mk (Kd.V_elder' (by (with_reducible repeat (first | apply Kd.V_alloc | apply Kd.V_drewN | apply Kd.V_drew)); exact HO0.out) (Kd.R_base ho0) hb); have n1_ := Aside0.mk (Kd.V_elder' (by (with_reducible repeat (first | apply Kd.V_alloc | apply Kd.V_drewN | apply Kd.V_drew)); exact HO1.out) (Kd.R_base ho0) hb); have n2_ := Aside0.mk (Kd.R_lower (Kd.R_newM (M := fun k_ => (w.heap.size ≤ k_)) ho0 (below_size (by repeat (first | (with_reducible first | exact HB.out | apply below_alloc | apply pw_below_drewN | apply below_drew1) | exact HB.out))) (fun k_ h_ => h_)) (below_size (by repeat (first | (with_reducible first | exact HB.out | apply below_alloc | apply pw_below_drewN | apply below_drew1) | exact HB.out)))); have n3_ := Aside0.mk (below_step (by repeat (first | (with_reducible first | exact HB.out | apply below_alloc | apply pw_below_drewN | apply below_drew1) | exact HB.out)) hb); clear HO0; clear HO1; clear HB; have HO0 := n0_; have HO1 := n1_; have HO217 := n2_; have HB := n3_; clear n0_ n1_ n2_ n3_; (try clear hb); (try clear hb2); (try clear hk); (try clear hi); (try clear ho0)))
  go_ret2
  exact ⟨_, by first | rfl | (simp [errW_none, errW_some] <;> rfl) | (simp [*, errW_none, errW_some] <;> rfl), by first | exact Kd.S_nil _ _ _ _ _ | exact Kd.N_nil _ _ _ _ _ | exact Kd.V_nil _ _ _ _ _ | exact Kd.Q_nil _ _ _ _ _ | exact Kd.R_nil _ _ _ _ _, by repeat (first | (with_reducible first | exact HB.out | apply below_alloc | apply pw_below_drewN | apply below_drew1) | exact HB.out)⟩

end Go.Proofs.Ythigjlahanejjaa.MD
