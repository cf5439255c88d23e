/- Laid by this claim's own program (myprint) out of the translation: functions that the laws of the group O reach, each as a plain function, with the proof that the Go code comes to it. No condition. -/
import Derived.Test.YthigjlahanejjaaMOx0
import Derived.Test.YthigjlahanejjaaMOx3
import Derived.Test.YthigjlahanejjaaMOx4
import Derived.Test.YthigjlahanejjaaMOx5
import Derived.Test.YthigjlahanejjaaMOx6
import Derived.Test.YthigjlahanejjaaMOx7
import Derived.Test.YthigjlahanejjaaMOx8
namespace Go.Proofs.Ythigjlahanejjaa.MO
open Go.Proofs.Ythigjlahanejjaa.Opening
open Go.RowKit Go.Proofs.YthigjlahanejjaaW.PrintWords Go.Proofs.YthigjlahanejjaaW.PrintLast Go.Proofs.YthigjlahanejjaaW.PrintMore
attribute [local go_sem] max2_int min2_int max_two min_two max_three min_three max_four min_four   -- for this text's walks alone
set_option linter.unusedVariables false
set_option linter.unusedSimpArgs false

/-! ### forebearlaw08_ObjectBack: function 11 -/
mutual
def forebearlaw08_ObjectBack.j0 : Nat → List Int → Int → List Int → Int → ByteArray → Option (Bool)
 | 0, _, _, _, _, _ => none
 | k + 1, x2, x209000, x209001, x209002, x209003 => (object_Commit.f k x209000 x209001 x209002 x209003).bind fun bt225 => (if bt225.2 = 0 then ((object_ReadCommit.f k bt225.1).bind fun bt229 => (if bt229.2.2.2.2 = 0 then ((forebearlaw08_Commit.f k bt229.1 bt229.2.1 bt229.2.2.1 bt229.2.2.2.1).bind fun bt237 => ((forebearlaw08_Commit.f k x209000 x209001 x209002 x209003).bind fun bt243 => ((forebearref08_SameCommit.f k bt237.1 bt237.2.1 bt237.2.2.1 bt237.2.2.2 bt243.1 bt243.2.1 bt243.2.2.1 bt243.2.2.2).bind fun t249 => (if t249 = true then (forebearlaw08_ObjectBack.j1 k x2) else (some false))))) else (some false))) else (forebearlaw08_ObjectBack.j1 k x2))
def forebearlaw08_ObjectBack.j1 : Nat → List Int → Option (Bool)
 | 0, _ => none
 | k + 1, x2 => (object_ReadTree.f k x2).bind fun bt250 => (if bt250.2 = 0 then ((object_Tree.f k bt250.1).bind fun bt254 => (if bt254.2 = 0 then (if (strOfNums bt254.1).toList = (strOfNums x2).toList then (forebearlaw08_ObjectBack.j2 k x2) else (some false)) else (some false))) else (if (bt250.1.length : Int) = 0 then (if bt250.2 = 9 then (forebearlaw08_ObjectBack.j2 k x2) else (some false)) else (some false)))
def forebearlaw08_ObjectBack.j2 : Nat → List Int → Option (Bool)
 | 0, _ => none
 | k + 1, x2 => (object_ReadCommit.f k x2).bind fun bt258 => (if bt258.2.2.2.2 = 0 then ((object_Commit.f k bt258.1 bt258.2.1 bt258.2.2.1 bt258.2.2.2.1).bind fun bt266 => (if bt266.2 = 0 then (some ((strOfNums bt266.1).toList == (strOfNums x2).toList)) else (some false))) else (if bt258.2.2.2.2 = 9 then ((forebearlaw08_Commit.f k bt258.1 bt258.2.1 bt258.2.2.1 bt258.2.2.2.1).bind fun bt270 => ((forebearref08_SameCommit.f k bt270.1 bt270.2.1 bt270.2.2.1 bt270.2.2.2 0 ([] : List Int) 0 (⟨#[]⟩ : ByteArray)).bind fun t276 => (some t276))) else (some false)))
end
def forebearlaw08_ObjectBack.f (k : Nat) (l0 : List (S67)) (a1_0 : Int) (l1_1 : List Int) (a1_2 : Int) (a1_3 : ByteArray) (l2 : List Int) : Option (Bool) := (forebearlaw08_awake.f k).bind fun t209 => (if t209 = true then ((object_Tree.f k l0).bind fun bt210 => (if bt210.2 = 0 then ((object_ReadTree.f k bt210.1).bind fun bt214 => (if bt214.2 = 0 then ((forebearlaw08_Entries.f k bt214.1).bind fun t218 => ((forebearlaw08_Entries.f k l0).bind fun t221 => ((forebearref08_SameTree.f k t218 t221).bind fun t224 => (if t224 = true then (forebearlaw08_ObjectBack.j0 k l2 a1_0 l1_1 a1_2 a1_3) else (some false))))) else (some false))) else (forebearlaw08_ObjectBack.j0 k l2 a1_0 l1_1 a1_2 a1_3))) else (some false))
theorem forebearlaw08_ObjectBack.mono_l : ∀ k, (∀ y0 y1 y2 y3 y4, LeO (forebearlaw08_ObjectBack.j0 k y0 y1 y2 y3 y4) (forebearlaw08_ObjectBack.j0 (k + 1) y0 y1 y2 y3 y4)) ∧ (∀ y0, LeO (forebearlaw08_ObjectBack.j1 k y0) (forebearlaw08_ObjectBack.j1 (k + 1) y0)) ∧ (∀ y0, LeO (forebearlaw08_ObjectBack.j2 k y0) (forebearlaw08_ObjectBack.j2 (k + 1) y0))
 | 0 => ⟨fun _ _ _ _ _ r h => by simp [forebearlaw08_ObjectBack.j0] at h, fun _ r h => by simp [forebearlaw08_ObjectBack.j1] at h, fun _ r h => by simp [forebearlaw08_ObjectBack.j2] at h⟩
 | k + 1 => by
  obtain ⟨ih0, ih1, ih2⟩ := forebearlaw08_ObjectBack.mono_l k
  refine ⟨?_, ?_, ?_⟩
  ·intro y0 y1 y2 y3 y4
   unfold forebearlaw08_ObjectBack.j0
   repeat' first
   | (with_reducible exact ih0 _ _ _ _ _)
   | (with_reducible exact ih1 _)
   | (with_reducible exact ih2 _)
   | (with_reducible exact forebearlaw08_Commit.mono _ _ _ _ _)
   | (with_reducible exact forebearlaw08_Entries.mono _ _)
   | (with_reducible exact forebearlaw08_awake.mono _)
   | (with_reducible exact forebearref08_SameCommit.mono _ _ _ _ _ _ _ _ _)
   | (with_reducible exact forebearref08_SameTree.mono _ _ _)
   | (with_reducible exact object_Commit.mono _ _ _ _ _)
   | (with_reducible exact object_ReadCommit.mono _ _)
   | (with_reducible exact object_ReadTree.mono _ _)
   | (with_reducible exact object_Tree.mono _ _)
   | (with_reducible exact LeO.refl _)
   | (with_reducible exact LeO.none _)
   | (with_reducible refine LeO.ite ?_ ?_)
   | (with_reducible refine LeO.bind ?_ (fun _ => ?_))
   | exact ih0 _ _ _ _ _
   | exact ih1 _
   | exact ih2 _
   | exact forebearlaw08_Commit.mono _ _ _ _ _
   | exact forebearlaw08_Entries.mono _ _
   | exact forebearlaw08_awake.mono _
   | exact forebearref08_SameCommit.mono _ _ _ _ _ _ _ _ _
   | exact forebearref08_SameTree.mono _ _ _
   | exact object_Commit.mono _ _ _ _ _
   | exact object_ReadCommit.mono _ _
   | exact object_ReadTree.mono _ _
   | exact object_Tree.mono _ _
   | exact LeO.none _
   | refine LeO.ite ?_ ?_
   | refine LeO.bind ?_ (fun _ => ?_)
  ·intro y0
   unfold forebearlaw08_ObjectBack.j1
   repeat' first
   | (with_reducible exact ih0 _ _ _ _ _)
   | (with_reducible exact ih1 _)
   | (with_reducible exact ih2 _)
   | (with_reducible exact forebearlaw08_Commit.mono _ _ _ _ _)
   | (with_reducible exact forebearlaw08_Entries.mono _ _)
   | (with_reducible exact forebearlaw08_awake.mono _)
   | (with_reducible exact forebearref08_SameCommit.mono _ _ _ _ _ _ _ _ _)
   | (with_reducible exact forebearref08_SameTree.mono _ _ _)
   | (with_reducible exact object_Commit.mono _ _ _ _ _)
   | (with_reducible exact object_ReadCommit.mono _ _)
   | (with_reducible exact object_ReadTree.mono _ _)
   | (with_reducible exact object_Tree.mono _ _)
   | (with_reducible exact LeO.refl _)
   | (with_reducible exact LeO.none _)
   | (with_reducible refine LeO.ite ?_ ?_)
   | (with_reducible refine LeO.bind ?_ (fun _ => ?_))
   | exact ih0 _ _ _ _ _
   | exact ih1 _
   | exact ih2 _
   | exact forebearlaw08_Commit.mono _ _ _ _ _
   | exact forebearlaw08_Entries.mono _ _
   | exact forebearlaw08_awake.mono _
   | exact forebearref08_SameCommit.mono _ _ _ _ _ _ _ _ _
   | exact forebearref08_SameTree.mono _ _ _
   | exact object_Commit.mono _ _ _ _ _
   | exact object_ReadCommit.mono _ _
   | exact object_ReadTree.mono _ _
   | exact object_Tree.mono _ _
   | exact LeO.none _
   | refine LeO.ite ?_ ?_
   | refine LeO.bind ?_ (fun _ => ?_)
  ·intro y0
   unfold forebearlaw08_ObjectBack.j2
   repeat' first
   | (with_reducible exact ih0 _ _ _ _ _)
   | (with_reducible exact ih1 _)
   | (with_reducible exact ih2 _)
   | (with_reducible exact forebearlaw08_Commit.mono _ _ _ _ _)
   | (with_reducible exact forebearlaw08_Entries.mono _ _)
   | (with_reducible exact forebearlaw08_awake.mono _)
   | (with_reducible exact forebearref08_SameCommit.mono _ _ _ _ _ _ _ _ _)
   | (with_reducible exact forebearref08_SameTree.mono _ _ _)
   | (with_reducible exact object_Commit.mono _ _ _ _ _)
   | (with_reducible exact object_ReadCommit.mono _ _)
   | (with_reducible exact object_ReadTree.mono _ _)
   | (with_reducible exact object_Tree.mono _ _)
   | (with_reducible exact LeO.refl _)
   | (with_reducible exact LeO.none _)
   | (with_reducible refine LeO.ite ?_ ?_)
   | (with_reducible refine LeO.bind ?_ (fun _ => ?_))
   | exact ih0 _ _ _ _ _
   | exact ih1 _
   | exact ih2 _
   | exact forebearlaw08_Commit.mono _ _ _ _ _
   | exact forebearlaw08_Entries.mono _ _
   | exact forebearlaw08_awake.mono _
   | exact forebearref08_SameCommit.mono _ _ _ _ _ _ _ _ _
   | exact forebearref08_SameTree.mono _ _ _
   | exact object_Commit.mono _ _ _ _ _
   | exact object_ReadCommit.mono _ _
   | exact object_ReadTree.mono _ _
   | exact object_Tree.mono _ _
   | exact LeO.none _
   | refine LeO.ite ?_ ?_
   | refine LeO.bind ?_ (fun _ => ?_)
theorem forebearlaw08_ObjectBack.mono : ∀ a0 a1 a2 a3 a4 a5 k, LeO (forebearlaw08_ObjectBack.f k a0 a1 a2 a3 a4 a5) (forebearlaw08_ObjectBack.f (k + 1) a0 a1 a2 a3 a4 a5) := by
 intro a0 a1 a2 a3 a4 a5 k
 obtain ⟨ih0, ih1, ih2⟩ := forebearlaw08_ObjectBack.mono_l k
 unfold forebearlaw08_ObjectBack.f
 repeat' first
   | (with_reducible exact ih0 _ _ _ _ _)
   | (with_reducible exact ih1 _)
   | (with_reducible exact ih2 _)
   | (with_reducible exact forebearlaw08_Commit.mono _ _ _ _ _)
   | (with_reducible exact forebearlaw08_Entries.mono _ _)
   | (with_reducible exact forebearlaw08_awake.mono _)
   | (with_reducible exact forebearref08_SameCommit.mono _ _ _ _ _ _ _ _ _)
   | (with_reducible exact forebearref08_SameTree.mono _ _ _)
   | (with_reducible exact object_Commit.mono _ _ _ _ _)
   | (with_reducible exact object_ReadCommit.mono _ _)
   | (with_reducible exact object_ReadTree.mono _ _)
   | (with_reducible exact object_Tree.mono _ _)
   | (with_reducible exact LeO.refl _)
   | (with_reducible exact LeO.none _)
   | (with_reducible refine LeO.ite ?_ ?_)
   | (with_reducible refine LeO.bind ?_ (fun _ => ?_))
   | exact ih0 _ _ _ _ _
   | exact ih1 _
   | exact ih2 _
   | exact forebearlaw08_Commit.mono _ _ _ _ _
   | exact forebearlaw08_Entries.mono _ _
   | exact forebearlaw08_awake.mono _
   | exact forebearref08_SameCommit.mono _ _ _ _ _ _ _ _ _
   | exact forebearref08_SameTree.mono _ _ _
   | exact object_Commit.mono _ _ _ _ _
   | exact object_ReadCommit.mono _ _
   | exact object_ReadTree.mono _ _
   | exact object_Tree.mono _ _
   | exact LeO.none _
   | refine LeO.ite ?_ ?_
   | refine LeO.bind ?_ (fun _ => ?_)
def forebearlaw08_ObjectBack.T11 : Bool × List (List Nat × List Nat) := (true, [([], []), ([0], [0]), ([1], [1]), ([2], [2]), ([3, 2, 2], [2, 3]), ([2], [2]), ([5, 4, 2], [2, 5]), ([4, 6, 6, 2], [2, 4, 6]), ([7, 2], [2, 7]), ([2, 8], [2, 8])])
def forebearlaw08_ObjectBack.B11 : List Nat := [0, 1, 3, 7, 15, 7, 63, 127, 255, 511]
theorem forebearlaw08_ObjectBack.tab11 : rtab .any (opsOf Try.f11 11) = forebearlaw08_ObjectBack.T11 := by kernel_rfl
theorem forebearlaw08_ObjectBack.bits11 : waitsOk forebearlaw08_ObjectBack.T11.2 forebearlaw08_ObjectBack.B11 = true := by kernel_rfl
set_option maxHeartbeats 8000000 in
set_option maxRecDepth 100000 in
theorem forebearlaw08_ObjectBack.calls (k : Nat) (A0 : Option Addr) (c0 : Nat) (l0 : List (S67)) (a1_0 : Int) (A1_1 : Option Addr) (c1_1 : Nat) (l1_1 : List Int) (a1_2 : Int) (a1_3 : ByteArray) (A2 : Option Addr) (c2 : Nat) (l2 : List Int) (r : Bool) (w : World) (hr0 : Kd.C k67 w A0 l0.length l0) (hc0 : l0.length ≤ c0) (hr1_1 : Kd.C (Kd.int .u64) w A1_1 l1_1.length l1_1) (hc1_1 : l1_1.length ≤ c1_1) (hr2 : Kd.C (Kd.int .u8) w A2 l2.length l2) (hc2 : l2.length ≤ c2) (h : forebearlaw08_ObjectBack.f k l0 a1_0 l1_1 a1_2 a1_3 l2 = some r) (hr_ : r = true := by rfl) :
  Calls Try.prog 11 #[.slice A0 l0.length c0, .agg #[.int .u64 a1_0, .slice A1_1 l1_1.length c1_1, .int .i64 a1_2, .string a1_3], .slice A2 l2.length c2] w fun e w' => e = .returned (.bool r) ∧ Below w.heap.size w w' := by
 have hu77 := Try.underlying77
 have hu82 := Try.underlying82
 have HR0 := Aside0.mk hr0
 have HC0 := Aside0.mk hc0
 clear hr0 hc0
 have HR1_1 := Aside0.mk hr1_1
 have HC1_1 := Aside0.mk hc1_1
 clear hr1_1 hc1_1
 have HR2 := Aside0.mk hr2
 have HC2 := Aside0.mk hc2
 clear hr2 hc2
 have HB := Aside0.mk (Below.refl w.heap.size w)
 have HR_ := Aside0.mk hr_
 clear hr_
 have H : ((forebearlaw08_awake.f k).bind fun t209 => (if t209 = true then ((object_Tree.f k l0).bind fun bt210 => (if bt210.2 = 0 then ((object_ReadTree.f k bt210.1).bind fun bt214 => (if bt214.2 = 0 then ((forebearlaw08_Entries.f k bt214.1).bind fun t218 => ((forebearlaw08_Entries.f k l0).bind fun t221 => ((forebearref08_SameTree.f k t218 t221).bind fun t224 => (if t224 = true then (forebearlaw08_ObjectBack.j0 k l2 a1_0 l1_1 a1_2 a1_3) else (some false))))) else (some false))) else (forebearlaw08_ObjectBack.j0 k l2 a1_0 l1_1 a1_2 a1_3))) else (some false))) = some r := h
 clear h
 replace H := Option.bind_eq_some_iff.mp H
 obtain ⟨t209, A40, H⟩ := H
 replace H : (if t209 = true then ((object_Tree.f k l0).bind fun bt210 => (if bt210.2 = 0 then ((object_ReadTree.f k bt210.1).bind fun bt214 => (if bt214.2 = 0 then ((forebearlaw08_Entries.f k bt214.1).bind fun t218 => ((forebearlaw08_Entries.f k l0).bind fun t221 => ((forebearref08_SameTree.f k t218 t221).bind fun t224 => (if t224 = true then (forebearlaw08_ObjectBack.j0 k l2 a1_0 l1_1 a1_2 a1_3) else (some false))))) else (some false))) else (forebearlaw08_ObjectBack.j0 k l2 a1_0 l1_1 a1_2 a1_3))) else (some false)) = some r := H
 have A4 := Aside0.mk A40
 clear A40
 by_cases c5 : t209 = true
 ·subst c5
  have H1 : ((object_Tree.f k l0).bind fun bt210 => (if bt210.2 = 0 then ((object_ReadTree.f k bt210.1).bind fun bt214 => (if bt214.2 = 0 then ((forebearlaw08_Entries.f k bt214.1).bind fun t218 => ((forebearlaw08_Entries.f k l0).bind fun t221 => ((forebearref08_SameTree.f k t218 t221).bind fun t224 => (if t224 = true then (forebearlaw08_ObjectBack.j0 k l2 a1_0 l1_1 a1_2 a1_3) else (some false))))) else (some false))) else (forebearlaw08_ObjectBack.j0 k l2 a1_0 l1_1 a1_2 a1_3))) = some r := by rw [if_pos rfl] at H; exact H
  clear H
  have H := H1
  clear H1
  replace H := Option.bind_eq_some_iff.mp H
  obtain ⟨⟨t210, t211⟩, A60, H⟩ := H
  replace H : (if t211 = 0 then ((object_ReadTree.f k t210).bind fun bt214 => (if bt214.2 = 0 then ((forebearlaw08_Entries.f k bt214.1).bind fun t218 => ((forebearlaw08_Entries.f k l0).bind fun t221 => ((forebearref08_SameTree.f k t218 t221).bind fun t224 => (if t224 = true then (forebearlaw08_ObjectBack.j0 k l2 a1_0 l1_1 a1_2 a1_3) else (some false))))) else (some false))) else (forebearlaw08_ObjectBack.j0 k l2 a1_0 l1_1 a1_2 a1_3)) = some r := H
  have A6 := Aside0.mk A60
  clear A60
  have HC7 := Aside0.mk H
  clear H
  go_enter Try.func11, Try.ntmps11
  go_upto_if 31 with (first | ((with_reducible refine gate_dst (N := 4) rfl ?_); refine box_event ?hg (N := 4) ?hd (cs := #[.int .u64 a1_0, .slice A1_1 l1_1.length c1_1, .int .i64 a1_2, .string a1_3]) (t := 77) ?hr ?_; (case hd => rfl); (case hg => rfl); (case hr => first | (go_simp; done) | (go_simp; rfl)); intro gb208 hg w8 hbox hb; have n0_ := Aside0.mk (below_step (by repeat (first | (with_reducible first | exact HB.out | apply below_alloc | apply pw_below_drewN | apply below_drew1) | exact HB.out)) hb); have n1_ := Aside0.mk (hbox); have n2_ := Aside0.mk ((by rw [hg]; exact (below_size (by repeat (first | (with_reducible first | exact HB.out | apply below_alloc | apply pw_below_drewN | apply below_drew1) | exact HB.out))) : w.heap.size ≤ gb208)); have n3_ := Aside0.mk ((by rw [hg]; exact (below_size (by repeat (first | (with_reducible first | exact HB.out | apply below_alloc | apply pw_below_drewN | apply below_drew1) | exact HB.out))) : w.heap.size ≤ gb208)); clear HB; have HB := n0_; have BK208 := n1_; have GW208 := n2_; have GE208 := n3_; clear n0_ n1_ n2_ n3_; clear hb hbox hg) | ((with_reducible refine gate_callee (f := 21) rfl ?_); refine goesL_ (some 23) rfl rfl Try.func21 (by kernel_rfl) rfl #[] rfl (by (try simp only [List.map_toArray, List.map_cons, List.map_nil]); first | done | rfl | (simp only [List.length_drop, List.length_take]; rfl)) ?_; (with_reducible refine (forebearlaw08_awake.calls k  true _ A4.out).mono ?_); rintro e w9 ⟨rfl, hb⟩; refine ⟨_, rfl, ?_⟩; have n0_ := Aside0.mk (blk_below (g := gb208) (o := .cells #[.int .u64 a1_0, .slice A1_1 l1_1.length c1_1, .int .i64 a1_2, .string a1_3] 77 (0, 0)) (by (with_reducible repeat (first | refine blk_drewN ?_ _ | refine blk_drew ?_ | refine blk_alloc ?_ _)); exact BK208.out) hb); have n1_ := Aside0.mk (below_step (by repeat (first | (with_reducible first | exact HB.out | apply below_alloc | apply pw_below_drewN | apply below_drew1 | refine below_set ?_ GE208.out) | exact HB.out)) hb); clear BK208; clear HB; have BK208 := n0_; have HB := n1_; clear n0_ n1_; (try clear hb); (try clear hb2); (try clear hk); (try clear hi)) | ((with_reducible refine gate_callee (f := 22) rfl ?_); refine goesL_ (some 27) rfl rfl Try.func22 (by kernel_rfl) rfl #[.slice A0 l0.length c0] rfl (by (try simp only [List.map_toArray, List.map_cons, List.map_nil]); first | done | rfl | (simp only [List.length_drop, List.length_take]; rfl)) ?_; (with_reducible refine (object_Tree.calls k _ _ l0 t210 t211 _ ?side1 ?side2 A6.out).mono ?_); (case side1 => repeat (first | exact (Kd.C_below HR0.out HB.out) | (with_reducible refine Kd.C_alloc ?_ _) | (with_reducible refine Kd.C_drewN ?_ _) | (with_reducible refine Kd.C_drew ?_))); (case side2 => exact HC0.out); rintro e w10 ⟨v212, rfl, ho0, hb⟩; refine ⟨_, rfl, ?_⟩; have n0_ := Aside0.mk (Kd.R_lower ho0 (below_size (by repeat (first | (with_reducible first | exact HB.out | apply below_alloc | apply pw_below_drewN | apply below_drew1 | refine below_set ?_ GE208.out) | exact HB.out)))); have n1_ := Aside0.mk (blk_below (g := gb208) (o := .cells #[.int .u64 a1_0, .slice A1_1 l1_1.length c1_1, .int .i64 a1_2, .string a1_3] 77 (0, 0)) (by (with_reducible repeat (first | refine blk_drewN ?_ _ | refine blk_drew ?_ | refine blk_alloc ?_ _)); exact BK208.out) hb); have n2_ := Aside0.mk (below_step (by repeat (first | (with_reducible first | exact HB.out | apply below_alloc | apply pw_below_drewN | apply below_drew1 | refine below_set ?_ GE208.out) | exact HB.out)) hb); clear BK208; clear HB; have HO213 := n0_; have BK208 := n1_; have HB := n2_; clear n0_ n1_ n2_; (try clear hb); (try clear hb2); (try clear hk); (try clear hi); (try clear ho0)))
  (try simp only [Act.put, List.setIfInBounds_toArray, List.set_cons_zero, List.set_cons_succ])
  go_cut [] (fun wc => ∃ (kq : Nat), Aside0 (forebearlaw08_ObjectBack.j0 kq l2 a1_0 l1_1 a1_2 a1_3 = some r) ∧ Aside0 (kq ≤ k) ∧ Aside0 (wc.heap[gb208]? = some (.cells #[.int .u64 a1_0, (.slice A1_1 l1_1.length c1_1), .int .i64 a1_2, .string a1_3] 77 (0, 0))) ∧ Aside0 (Below w.heap.size w wc))
  case first =>
   have H := HC7.out
   clear HC7
   by_cases c11 : t211 = 0
   ·rw [if_pos c11] at H
    have c11b0 : (t211 == 0) = true := beq_iff_eq.mpr c11
    have c11b1 : (t211 != 0) = false := bne_eq_false_iff_eq.mpr c11
    clear c11
    (first | rw [c11b0] | (simp only [i64_w, i32_w]; rw [c11b0]) | skip)
    replace H := Option.bind_eq_some_iff.mp H
    obtain ⟨⟨t214, t215⟩, A120, H⟩ := H
    replace H : (if t215 = 0 then ((forebearlaw08_Entries.f k t214).bind fun t218 => ((forebearlaw08_Entries.f k l0).bind fun t221 => ((forebearref08_SameTree.f k t218 t221).bind fun t224 => (if t224 = true then (forebearlaw08_ObjectBack.j0 k l2 a1_0 l1_1 a1_2 a1_3) else (some false))))) else (some false)) = some r := H
    have A12 := Aside0.mk A120
    clear A120
    by_cases c13 : t215 = 0
    ·rw [if_pos c13] at H
     have c13b0 : (t215 == 0) = true := beq_iff_eq.mpr c13
     have c13b1 : (t215 != 0) = false := bne_eq_false_iff_eq.mpr c13
     clear c13
     replace H := Option.bind_eq_some_iff.mp H
     obtain ⟨t218, A140, H⟩ := H
     replace H : ((forebearlaw08_Entries.f k l0).bind fun t221 => ((forebearref08_SameTree.f k t218 t221).bind fun t224 => (if t224 = true then (forebearlaw08_ObjectBack.j0 k l2 a1_0 l1_1 a1_2 a1_3) else (some false)))) = some r := H
     have A14 := Aside0.mk A140
     clear A140
     replace H := Option.bind_eq_some_iff.mp H
     obtain ⟨t221, A150, H⟩ := H
     replace H : ((forebearref08_SameTree.f k t218 t221).bind fun t224 => (if t224 = true then (forebearlaw08_ObjectBack.j0 k l2 a1_0 l1_1 a1_2 a1_3) else (some false))) = some r := H
     have A15 := Aside0.mk A150
     clear A150
     replace H := Option.bind_eq_some_iff.mp H
     obtain ⟨t224, A160, H⟩ := H
     replace H : (if t224 = true then (forebearlaw08_ObjectBack.j0 k l2 a1_0 l1_1 a1_2 a1_3) else (some false)) = some r := H
     have A16 := Aside0.mk A160
     clear A160
     by_cases c17 : t224 = true
     ·subst c17
      have H1 : (forebearlaw08_ObjectBack.j0 k l2 a1_0 l1_1 a1_2 a1_3) = some r := by rw [if_pos rfl] at H; exact H
      clear H
      have H := H1
      clear H1
      have H' := Aside0.mk H
      clear H
      obtain ⟨Ao18, co18, eo18⟩ := Kd.R_slice HO213.out
      subst eo18
      go_wp2_with (first | ((with_reducible refine gate_callee (f := 25) rfl ?_); refine goesL_ (some 34) rfl rfl Try.func25 (by kernel_rfl) rfl #[.slice Ao18 t210.length co18] rfl (by (try simp only [List.map_toArray, List.map_cons, List.map_nil]); first | done | rfl | (simp only [List.length_drop, List.length_take]; rfl)) ?_; (with_reducible refine (object_ReadTree.calls k _ _ t210 t214 t215 _ ?side1 ?side2 A12.out).mono ?_); (case side1 => repeat (first | exact (Kd.R_reads' HO213.out).2.2 | (with_reducible refine Kd.C_alloc ?_ _) | (with_reducible refine Kd.C_drewN ?_ _) | (with_reducible refine Kd.C_drew ?_))); (case side2 => exact (Kd.R_reads' HO213.out).2.1); rintro e w19 ⟨v216, rfl, ho0, hb⟩; refine ⟨_, rfl, ?_⟩; have n0_ := Aside0.mk (Kd.R_below (by (with_reducible repeat (first | apply Kd.R_alloc | apply Kd.R_drewN | apply Kd.R_drew)); exact HO213.out) hb); have n1_ := Aside0.mk (Kd.R_lower ho0 (below_size (by repeat (first | (with_reducible first | exact HB.out | apply below_alloc | apply pw_below_drewN | apply below_drew1 | refine below_set ?_ GE208.out) | exact HB.out)))); have n2_ := Aside0.mk (blk_below (g := gb208) (o := .cells #[.int .u64 a1_0, .slice A1_1 l1_1.length c1_1, .int .i64 a1_2, .string a1_3] 77 (0, 0)) (by (with_reducible repeat (first | refine blk_drewN ?_ _ | refine blk_drew ?_ | refine blk_alloc ?_ _)); exact BK208.out) hb); have n3_ := Aside0.mk (below_step (by repeat (first | (with_reducible first | exact HB.out | apply below_alloc | apply pw_below_drewN | apply below_drew1 | refine below_set ?_ GE208.out) | exact HB.out)) hb); clear HO213; clear BK208; clear HB; have HO213 := n0_; have HO217 := n1_; have BK208 := n2_; have HB := n3_; clear n0_ n1_ n2_ n3_; (try clear hb); (try clear hb2); (try clear hk); (try clear hi); (try clear ho0); obtain ⟨Ao20, co20, eo20⟩ := Kd.R_slice HO217.out; subst eo20) | (go_at_call 24; (with_reducible refine (forebearlaw08_Entries.calls k _ _ t214 t218 _ ?side1 ?side2 A14.out).mono ?_); (case side1 => repeat (first | exact (Kd.R_reads' HO217.out).2.2 | (with_reducible refine Kd.C_alloc ?_ _) | (with_reducible refine Kd.C_drewN ?_ _) | (with_reducible refine Kd.C_drew ?_))); (case side2 => exact (Kd.R_reads' HO217.out).2.1); rintro e w21 ⟨v219, rfl, ho0, hb⟩; have n0_ := Aside0.mk (Kd.R_below (by (with_reducible repeat (first | apply Kd.R_alloc | apply Kd.R_drewN | apply Kd.R_drew)); exact HO213.out) hb); have n1_ := Aside0.mk (Kd.R_below (by (with_reducible repeat (first | apply Kd.R_alloc | apply Kd.R_drewN | apply Kd.R_drew)); exact HO217.out) hb); have n2_ := Aside0.mk (Kd.R_lower ho0 (below_size (by repeat (first | (with_reducible first | exact HB.out | apply below_alloc | apply pw_below_drewN | apply below_drew1 | refine below_set ?_ GE208.out) | exact HB.out)))); have n3_ := Aside0.mk (blk_below (g := gb208) (o := .cells #[.int .u64 a1_0, .slice A1_1 l1_1.length c1_1, .int .i64 a1_2, .string a1_3] 77 (0, 0)) (by (with_reducible repeat (first | refine blk_drewN ?_ _ | refine blk_drew ?_ | refine blk_alloc ?_ _)); exact BK208.out) hb); have n4_ := Aside0.mk (below_step (by repeat (first | (with_reducible first | exact HB.out | apply below_alloc | apply pw_below_drewN | apply below_drew1 | refine below_set ?_ GE208.out) | exact HB.out)) hb); clear HO213; clear HO217; clear BK208; clear HB; have HO213 := n0_; have HO217 := n1_; have HO220 := n2_; have BK208 := n3_; have HB := n4_; clear n0_ n1_ n2_ n3_ n4_; (try clear hb); (try clear hb2); (try clear hk); (try clear hi); (try clear ho0)) | (go_at_call 24; (with_reducible refine (forebearlaw08_Entries.calls k _ _ l0 t221 _ ?side1 ?side2 A15.out).mono ?_); (case side1 => repeat (first | exact (Kd.C_below HR0.out HB.out) | (with_reducible refine Kd.C_alloc ?_ _) | (with_reducible refine Kd.C_drewN ?_ _) | (with_reducible refine Kd.C_drew ?_))); (case side2 => exact HC0.out); rintro e w22 ⟨v222, rfl, ho0, hb⟩; have n0_ := Aside0.mk (Kd.R_below (by (with_reducible repeat (first | apply Kd.R_alloc | apply Kd.R_drewN | apply Kd.R_drew)); exact HO213.out) hb); have n1_ := Aside0.mk (Kd.R_below (by (with_reducible repeat (first | apply Kd.R_alloc | apply Kd.R_drewN | apply Kd.R_drew)); exact HO217.out) hb); have n2_ := Aside0.mk (Kd.R_elder' (by (with_reducible repeat (first | apply Kd.R_alloc | apply Kd.R_drewN | apply Kd.R_drew)); exact HO220.out) (Kd.R_base ho0) hb); have n3_ := Aside0.mk (Kd.R_lower (Kd.R_new' ho0 (Kd.R_lt (by (with_reducible repeat (first | apply Kd.R_alloc | apply Kd.R_drewN | apply Kd.R_drew)); exact HO220.out))) (below_size (by repeat (first | (with_reducible first | exact HB.out | apply below_alloc | apply pw_below_drewN | apply below_drew1 | refine below_set ?_ GE208.out) | exact HB.out)))); have n4_ := Aside0.mk (blk_below (g := gb208) (o := .cells #[.int .u64 a1_0, .slice A1_1 l1_1.length c1_1, .int .i64 a1_2, .string a1_3] 77 (0, 0)) (by (with_reducible repeat (first | refine blk_drewN ?_ _ | refine blk_drew ?_ | refine blk_alloc ?_ _)); exact BK208.out) hb); have n5_ := Aside0.mk (below_step (by repeat (first | (with_reducible first | exact HB.out | apply below_alloc | apply pw_below_drewN | apply below_drew1 | refine below_set ?_ GE208.out) | exact HB.out)) hb); clear HO213; clear HO217; clear HO220; clear BK208; clear HB; have HO213 := n0_; have HO217 := n1_; have HO220 := n2_; have HO223 := n3_; have BK208 := n4_; have HB := n5_; clear n0_ n1_ n2_ n3_ n4_ n5_; (try clear hb); (try clear hb2); (try clear hk); (try clear hi); (try clear ho0); obtain ⟨Ao23, co23, eo23⟩ := Kd.R_slice HO220.out; subst eo23; obtain ⟨Ao24, co24, eo24⟩ := Kd.R_slice HO223.out; subst eo24) | (go_at_call 27; (with_reducible refine (forebearref08_SameTree.calls k _ _ t218 _ _ t221 true _ ?side1 ?side2 ?side3 ?side4 A16.out).mono ?_); (case side1 => repeat (first | exact (Kd.R_reads' HO220.out).2.2 | (with_reducible refine Kd.C_alloc ?_ _) | (with_reducible refine Kd.C_drewN ?_ _) | (with_reducible refine Kd.C_drew ?_))); (case side2 => exact (Kd.R_reads' HO220.out).2.1); (case side3 => repeat (first | exact (Kd.R_reads' HO223.out).2.2 | (with_reducible refine Kd.C_alloc ?_ _) | (with_reducible refine Kd.C_drewN ?_ _) | (with_reducible refine Kd.C_drew ?_))); (case side4 => exact (Kd.R_reads' HO223.out).2.1); rintro e w' ⟨rfl, ⟨nd, rfl⟩⟩))
      go_meet
      case rel => exact ⟨_, H', ⟨by first | omega | exact Nat.le_refl _⟩, ⟨by (with_reducible repeat (first | refine blk_drewN ?_ _ | refine blk_drew ?_ | refine blk_alloc ?_ _)); exact BK208.out⟩, ⟨by repeat (first | (with_reducible first | exact HB.out | apply below_alloc | apply pw_below_drewN | apply below_drew1 | refine below_set ?_ GE208.out) | exact HB.out)⟩⟩
     ·replace c17 := Bool.eq_false_iff.mpr c17
      subst c17
      have H1 : (some false) = some r := by rw [if_neg (show ¬ (false = true) by decide)] at H; exact H
      clear H
      have H := H1
      clear H1
      exact absurd (Option.some.inj H) (by rw [HR_.out]; decide)
    ·rw [if_neg c13] at H
     have c13b0 : (t215 == 0) = false := beq_eq_false_iff_ne.mpr c13
     have c13b1 : (t215 != 0) = true := bne_iff_ne.mpr c13
     exact absurd (Option.some.inj H) (by rw [HR_.out]; decide)
   ·rw [if_neg c11] at H
    have c11b0 : (t211 == 0) = false := beq_eq_false_iff_ne.mpr c11
    have c11b1 : (t211 != 0) = true := bne_iff_ne.mpr c11
    (first | rw [c11b0] | (simp only [i64_w, i32_w]; rw [c11b0]) | skip)
    have H' := Aside0.mk H
    clear H
    go_wp2
    go_meet
    case rel => exact ⟨_, H', ⟨by first | omega | exact Nat.le_refl _⟩, ⟨by (with_reducible repeat (first | refine blk_drewN ?_ _ | refine blk_drew ?_ | refine blk_alloc ?_ _)); exact BK208.out⟩, ⟨by repeat (first | (with_reducible first | exact HB.out | apply below_alloc | apply pw_below_drewN | apply below_drew1 | refine below_set ?_ GE208.out) | exact HB.out)⟩⟩
  case rest =>
   clear HC7
   try clear c1
   try clear c2
   try clear p2
   try clear c5
   try clear c11
   try clear c11b0
   try clear c11b1
   try clear c13
   try clear c13b0
   try clear c13b1
   try clear c17
   try clear c21
   try clear c22
   try clear c25
   obtain ⟨kq, HA, HJ6, BK208, HB⟩ := hcut
   cases kq with
   | zero => exact absurd HA.out (by simp [forebearlaw08_ObjectBack.j0])
   | succ kj6 =>
    have H := HA.out
    clear HA
    simp only [forebearlaw08_ObjectBack.j0] at H
    replace H := Option.bind_eq_some_iff.mp H
    obtain ⟨⟨t225, t228⟩, A340, H⟩ := H
    replace H : (if t228 = 0 then ((object_ReadCommit.f kj6 t225).bind fun bt229 => (if bt229.2.2.2.2 = 0 then ((forebearlaw08_Commit.f kj6 bt229.1 bt229.2.1 bt229.2.2.1 bt229.2.2.2.1).bind fun bt237 => ((forebearlaw08_Commit.f kj6 a1_0 l1_1 a1_2 a1_3).bind fun bt243 => ((forebearref08_SameCommit.f kj6 bt237.1 bt237.2.1 bt237.2.2.1 bt237.2.2.2 bt243.1 bt243.2.1 bt243.2.2.1 bt243.2.2.2).bind fun t249 => (if t249 = true then (forebearlaw08_ObjectBack.j1 kj6 l2) else (some false))))) else (some false))) else (forebearlaw08_ObjectBack.j1 kj6 l2)) = some r := H
    have A34 := Aside0.mk A340
    clear A340
    have HC35 := Aside0.mk H
    clear H
    have hcz36_0 : wc.cell? ⟨gb208, 0, none⟩ = some (.int .u64 a1_0) := (blk_cell BK208.out 0).trans rfl
    have hcz36_1 : wc.cell? ⟨gb208, 1, none⟩ = some (.slice A1_1 l1_1.length c1_1) := (blk_cell BK208.out 1).trans rfl
    have hcz36_2 : wc.cell? ⟨gb208, 2, none⟩ = some (.int .i64 a1_2) := (blk_cell BK208.out 2).trans rfl
    have hcz36_3 : wc.cell? ⟨gb208, 3, none⟩ = some (.string a1_3) := (blk_cell BK208.out 3).trans rfl
    have hfz36_0 := blk_frozen BK208.out 0
    have hfz36_1 := blk_frozen BK208.out 1
    have hfz36_2 := blk_frozen BK208.out 2
    have hfz36_3 := blk_frozen BK208.out 3
    go_upto_if 53 with (first | ((with_reducible refine gate_callee (f := 30) rfl ?_); refine goesL_ (some 49) rfl rfl Try.func30 (by kernel_rfl) rfl #[.agg #[.int .u64 a1_0, .slice A1_1 l1_1.length c1_1, .int .i64 a1_2, .string a1_3]] rfl (by (try simp only [List.map_toArray, List.map_cons, List.map_nil]); first | done | rfl | (simp only [List.length_drop, List.length_take]; rfl)) ?_; (with_reducible refine (object_Commit.calls kj6 a1_0 _ _ l1_1 a1_2 a1_3 t225 t228 _ ?side1 ?side2 A34.out).mono ?_); (case side1 => repeat (first | exact (Kd.C_below HR1_1.out HB.out) | (with_reducible refine Kd.C_alloc ?_ _) | (with_reducible refine Kd.C_drewN ?_ _) | (with_reducible refine Kd.C_drew ?_))); (case side2 => exact HC1_1.out); rintro e w37 ⟨v226, rfl, ho0, hb⟩; refine ⟨_, rfl, ?_⟩; have n0_ := Aside0.mk (Kd.R_lower ho0 (below_size (by repeat (first | (with_reducible first | exact HB.out | apply below_alloc | apply pw_below_drewN | apply below_drew1 | refine below_set ?_ GE208.out) | exact HB.out)))); have n1_ := Aside0.mk (blk_below (g := gb208) (o := .cells #[.int .u64 a1_0, .slice A1_1 l1_1.length c1_1, .int .i64 a1_2, .string a1_3] 77 (0, 0)) (by (with_reducible repeat (first | refine blk_drewN ?_ _ | refine blk_drew ?_ | refine blk_alloc ?_ _)); exact BK208.out) hb); have n2_ := Aside0.mk (below_step (by repeat (first | (with_reducible first | exact HB.out | apply below_alloc | apply pw_below_drewN | apply below_drew1 | refine below_set ?_ GE208.out) | exact HB.out)) hb); clear BK208; clear HB; have HO227 := n0_; have BK208 := n1_; have HB := n2_; clear n0_ n1_ n2_; (try clear hb); (try clear hb2); (try clear hk); (try clear hi); (try clear ho0)))
    (try simp only [Act.put, List.setIfInBounds_toArray, List.set_cons_zero, List.set_cons_succ])
    go_cut [] (fun wc => ∃ (kq : Nat), Aside0 (forebearlaw08_ObjectBack.j1 kq l2 = some r) ∧ Aside0 (kq ≤ kj6) ∧ Aside0 (wc.heap[gb208]? = some (.cells #[.int .u64 a1_0, (.slice A1_1 l1_1.length c1_1), .int .i64 a1_2, .string a1_3] 77 (0, 0))) ∧ Aside0 (Below w.heap.size w wc))
    case first =>
     have H := HC35.out
     clear HC35
     by_cases c38 : t228 = 0
     ·rw [if_pos c38] at H
      have c38b0 : (t228 == 0) = true := beq_iff_eq.mpr c38
      have c38b1 : (t228 != 0) = false := bne_eq_false_iff_eq.mpr c38
      clear c38
      (first | rw [c38b0] | (simp only [i64_w, i32_w]; rw [c38b0]) | skip)
      replace H := Option.bind_eq_some_iff.mp H
      obtain ⟨⟨t229, t230, t233, t234, t235⟩, A390, H⟩ := H
      replace H : (if t235 = 0 then ((forebearlaw08_Commit.f kj6 t229 t230 t233 t234).bind fun bt237 => ((forebearlaw08_Commit.f kj6 a1_0 l1_1 a1_2 a1_3).bind fun bt243 => ((forebearref08_SameCommit.f kj6 bt237.1 bt237.2.1 bt237.2.2.1 bt237.2.2.2 bt243.1 bt243.2.1 bt243.2.2.1 bt243.2.2.2).bind fun t249 => (if t249 = true then (forebearlaw08_ObjectBack.j1 kj6 l2) else (some false))))) else (some false)) = some r := H
      have A39 := Aside0.mk A390
      clear A390
      by_cases c40 : t235 = 0
      ·rw [if_pos c40] at H
       have c40b0 : (t235 == 0) = true := beq_iff_eq.mpr c40
       have c40b1 : (t235 != 0) = false := bne_eq_false_iff_eq.mpr c40
       clear c40
       replace H := Option.bind_eq_some_iff.mp H
       obtain ⟨⟨t237, t238, t241, t242⟩, A410, H⟩ := H
       replace H : ((forebearlaw08_Commit.f kj6 a1_0 l1_1 a1_2 a1_3).bind fun bt243 => ((forebearref08_SameCommit.f kj6 t237 t238 t241 t242 bt243.1 bt243.2.1 bt243.2.2.1 bt243.2.2.2).bind fun t249 => (if t249 = true then (forebearlaw08_ObjectBack.j1 kj6 l2) else (some false)))) = some r := H
       have A41 := Aside0.mk A410
       clear A410
       replace H := Option.bind_eq_some_iff.mp H
       obtain ⟨⟨t243, t244, t247, t248⟩, A420, H⟩ := H
       replace H : ((forebearref08_SameCommit.f kj6 t237 t238 t241 t242 t243 t244 t247 t248).bind fun t249 => (if t249 = true then (forebearlaw08_ObjectBack.j1 kj6 l2) else (some false))) = some r := H
       have A42 := Aside0.mk A420
       clear A420
       replace H := Option.bind_eq_some_iff.mp H
       obtain ⟨t249, A430, H⟩ := H
       replace H : (if t249 = true then (forebearlaw08_ObjectBack.j1 kj6 l2) else (some false)) = some r := H
       have A43 := Aside0.mk A430
       clear A430
       by_cases c44 : t249 = true
       ·subst c44
        have H1 : (forebearlaw08_ObjectBack.j1 kj6 l2) = some r := by rw [if_pos rfl] at H; exact H
        clear H
        have H := H1
        clear H1
        have H' := Aside0.mk H
        clear H
        obtain ⟨Ao45, co45, eo45⟩ := Kd.R_slice HO227.out
        subst eo45
        try go_wp2_with (first | ((with_reducible refine gate_callee (f := 33) rfl ?_); refine goesL_ (some 56) rfl rfl Try.func33 (by kernel_rfl) rfl #[.slice Ao45 t225.length co45] rfl (by (try simp only [List.map_toArray, List.map_cons, List.map_nil]); first | done | rfl | (simp only [List.length_drop, List.length_take]; rfl)) ?_; (with_reducible refine (object_ReadCommit.calls kj6 _ _ t225 t229 t230 t233 t234 t235 _ ?side1 ?side2 A39.out).mono ?_); (case side1 => repeat (first | exact (Kd.R_reads' HO227.out).2.2 | (with_reducible refine Kd.C_alloc ?_ _) | (with_reducible refine Kd.C_drewN ?_ _) | (with_reducible refine Kd.C_drew ?_))); (case side2 => exact (Kd.R_reads' HO227.out).2.1); rintro e w46 ⟨v231, rfl, ho0, hb⟩; refine ⟨_, rfl, ?_⟩; have n0_ := Aside0.mk (Kd.R_below (by (with_reducible repeat (first | apply Kd.R_alloc | apply Kd.R_drewN | apply Kd.R_drew)); exact HO227.out) hb); have n1_ := Aside0.mk (Kd.R_lower ho0 (below_size (by repeat (first | (with_reducible first | exact HB.out | apply below_alloc | apply pw_below_drewN | apply below_drew1 | refine below_set ?_ GE208.out) | exact HB.out)))); have n2_ := Aside0.mk (blk_below (g := gb208) (o := .cells #[.int .u64 a1_0, .slice A1_1 l1_1.length c1_1, .int .i64 a1_2, .string a1_3] 77 (0, 0)) (by (with_reducible repeat (first | refine blk_drewN ?_ _ | refine blk_drew ?_ | refine blk_alloc ?_ _)); exact BK208.out) hb); have n3_ := Aside0.mk (below_step (by repeat (first | (with_reducible first | exact HB.out | apply below_alloc | apply pw_below_drewN | apply below_drew1 | refine below_set ?_ GE208.out) | exact HB.out)) hb); clear HO227; clear BK208; clear HB; have HO227 := n0_; have HO232 := n1_; have BK208 := n2_; have HB := n3_; clear n0_ n1_ n2_ n3_; (try clear hb); (try clear hb2); (try clear hk); (try clear hi); (try clear ho0)) | ((with_reducible refine gate_dst (N := 13) rfl ?_); refine box_event ?hg (N := 13) ?hd (cs := #[.int .u64 0, .slice none 0 0, .int .i64 0, .string (⟨#[]⟩ : ByteArray)]) (t := 77) ?hr ?_; (case hd => rfl); (case hg => rfl); (case hr => first | (go_simp; done) | (go_simp; rfl)); intro gb236 hg w47 hbox hb; have n0_ := Aside0.mk (Kd.R_below (by (with_reducible repeat (first | apply Kd.R_alloc | apply Kd.R_drewN | apply Kd.R_drew)); exact HO227.out) hb); have n1_ := Aside0.mk (Kd.R_below (by (with_reducible repeat (first | apply Kd.R_alloc | apply Kd.R_drewN | apply Kd.R_drew)); exact HO232.out) hb); have n2_ := Aside0.mk (blk_below (g := gb208) (o := .cells #[.int .u64 a1_0, .slice A1_1 l1_1.length c1_1, .int .i64 a1_2, .string a1_3] 77 (0, 0)) (by (with_reducible repeat (first | refine blk_drewN ?_ _ | refine blk_drew ?_ | refine blk_alloc ?_ _)); exact BK208.out) hb); have n3_ := Aside0.mk (below_step (by repeat (first | (with_reducible first | exact HB.out | apply below_alloc | apply pw_below_drewN | apply below_drew1 | refine below_set ?_ GE208.out) | exact HB.out)) hb); have n4_ := Aside0.mk (hbox); have n5_ := Aside0.mk ((by rw [hg]; exact (below_size (by repeat (first | (with_reducible first | exact HB.out | apply below_alloc | apply pw_below_drewN | apply below_drew1 | refine below_set ?_ GE208.out) | exact HB.out))) : w.heap.size ≤ gb236)); have n6_ := Aside0.mk ((by rw [hg]; exact (below_size (by repeat (first | (with_reducible first | exact HB.out | apply below_alloc | apply pw_below_drewN | apply below_drew1 | refine below_set ?_ GE208.out) | exact HB.out))) : w.heap.size ≤ gb236)); have n7_ := Aside0.mk ((by rw [hg]; exact Nat.ne_of_lt (blk_lt (g := gb208) (o := .cells #[.int .u64 a1_0, .slice A1_1 l1_1.length c1_1, .int .i64 a1_2, .string a1_3] 77 (0, 0)) (by (with_reducible repeat (first | refine blk_drewN ?_ _ | refine blk_drew ?_ | refine blk_alloc ?_ _)); exact BK208.out)) : gb208 ≠ gb236)); have n8_ := Aside0.mk ((by rw [hg]; exact Nat.ne_of_gt (blk_lt (g := gb208) (o := .cells #[.int .u64 a1_0, .slice A1_1 l1_1.length c1_1, .int .i64 a1_2, .string a1_3] 77 (0, 0)) (by (with_reducible repeat (first | refine blk_drewN ?_ _ | refine blk_drew ?_ | refine blk_alloc ?_ _)); exact BK208.out)) : gb236 ≠ gb208)); clear HO227; clear HO232; clear BK208; clear HB; have HO227 := n0_; have HO232 := n1_; have BK208 := n2_; have HB := n3_; have BK236 := n4_; have GW236 := n5_; have GE236 := n6_; have NB208_236 := n7_; have NB236_208 := n8_; clear n0_ n1_ n2_ n3_ n4_ n5_ n6_ n7_ n8_; clear hb hbox hg; have hnb48 := NB236_208.out; have hnc48 := NB208_236.out; have hcz49_0 : w47.cell? ⟨gb236, 0, none⟩ = some (.int .u64 0) := (blk_cell BK236.out 0).trans rfl; have hcz49_1 : w47.cell? ⟨gb236, 1, none⟩ = some (.slice none 0 0) := (blk_cell BK236.out 1).trans rfl; have hcz49_2 : w47.cell? ⟨gb236, 2, none⟩ = some (.int .i64 0) := (blk_cell BK236.out 2).trans rfl; have hcz49_3 : w47.cell? ⟨gb236, 3, none⟩ = some (.string (⟨#[]⟩ : ByteArray)) := (blk_cell BK236.out 3).trans rfl; have hfz49_0 := blk_frozen BK236.out 0; have hfz49_1 := blk_frozen BK236.out 1; have hfz49_2 := blk_frozen BK236.out 2; have hfz49_3 := blk_frozen BK236.out 3; obtain ⟨Ao50, co50, eo50⟩ := Kd.R_slice HO232.out; subst eo50))
        have n0_ : Aside0 (Kd.R (Kd.int .u8) 5 ((((w47.setCell ⟨gb236, 0, none⟩ (.int .u64 t229)).setCell ⟨gb236, 1, none⟩ (.slice Ao50 t230.length co50)).setCell ⟨gb236, 2, none⟩ (.int .i64 t233)).setCell ⟨gb236, 3, none⟩ (.string t234)) w.heap.size (fun _ => True) (.slice Ao45 t225.length co45) t225) := ⟨by (with_reducible repeat (first | apply Kd.R_alloc | apply Kd.R_drewN | apply Kd.R_drew)); exact Kd.R_mono (Kd.R_far (p := ⟨gb236, 3, none⟩) (Kd.R_far (p := ⟨gb236, 2, none⟩) (Kd.R_far (p := ⟨gb236, 1, none⟩) (Kd.R_far (p := ⟨gb236, 0, none⟩) (Kd.R_types HO227.out BK236.out (by decide)) (fun _ hk => hk.2) (.int .u64 t229)) (fun _ hk => hk.2) (.slice Ao50 t230.length co50)) (fun _ hk => hk.2) (.int .i64 t233)) (fun _ hk => hk.2) (.string t234)) (fun _ hk => trivial)⟩
        have n1_ : Aside0 (Kd.R (Kd.int .u64) 65 ((((w47.setCell ⟨gb236, 0, none⟩ (.int .u64 t229)).setCell ⟨gb236, 1, none⟩ (.slice Ao50 t230.length co50)).setCell ⟨gb236, 2, none⟩ (.int .i64 t233)).setCell ⟨gb236, 3, none⟩ (.string t234)) w.heap.size (fun _ => True) (.slice Ao50 t230.length co50) t230) := ⟨by (with_reducible repeat (first | apply Kd.R_alloc | apply Kd.R_drewN | apply Kd.R_drew)); exact Kd.R_mono (Kd.R_far (p := ⟨gb236, 3, none⟩) (Kd.R_far (p := ⟨gb236, 2, none⟩) (Kd.R_far (p := ⟨gb236, 1, none⟩) (Kd.R_far (p := ⟨gb236, 0, none⟩) (Kd.R_types HO232.out BK236.out (by decide)) (fun _ hk => hk.2) (.int .u64 t229)) (fun _ hk => hk.2) (.slice Ao50 t230.length co50)) (fun _ hk => hk.2) (.int .i64 t233)) (fun _ hk => hk.2) (.string t234)) (fun _ hk => trivial)⟩
        have n2_ : Aside0 (((((w47.setCell ⟨gb236, 0, none⟩ (.int .u64 t229)).setCell ⟨gb236, 1, none⟩ (.slice Ao50 t230.length co50)).setCell ⟨gb236, 2, none⟩ (.int .i64 t233)).setCell ⟨gb236, 3, none⟩ (.string t234)).heap[gb208]? = some (.cells #[.int .u64 a1_0, .slice A1_1 l1_1.length c1_1, .int .i64 a1_2, .string a1_3] 77 (0, 0))) := ⟨by (with_reducible repeat (first | refine blk_drewN ?_ _ | refine blk_drew ?_ | refine blk_alloc ?_ _)); refine blk_far ?_ NB208_236.out _; (with_reducible repeat (first | refine blk_drewN ?_ _ | refine blk_drew ?_ | refine blk_alloc ?_ _)); refine blk_far ?_ NB208_236.out _; (with_reducible repeat (first | refine blk_drewN ?_ _ | refine blk_drew ?_ | refine blk_alloc ?_ _)); refine blk_far ?_ NB208_236.out _; (with_reducible repeat (first | refine blk_drewN ?_ _ | refine blk_drew ?_ | refine blk_alloc ?_ _)); refine blk_far ?_ NB208_236.out _; (with_reducible repeat (first | refine blk_drewN ?_ _ | refine blk_drew ?_ | refine blk_alloc ?_ _)); exact BK208.out⟩
        have n3_ : Aside0 (((((w47.setCell ⟨gb236, 0, none⟩ (.int .u64 t229)).setCell ⟨gb236, 1, none⟩ (.slice Ao50 t230.length co50)).setCell ⟨gb236, 2, none⟩ (.int .i64 t233)).setCell ⟨gb236, 3, none⟩ (.string t234)).heap[gb236]? = some (.cells #[.int .u64 t229, .slice Ao50 t230.length co50, .int .i64 t233, .string t234] 77 (0, 0))) := ⟨by (with_reducible repeat (first | refine blk_drewN ?_ _ | refine blk_drew ?_ | refine blk_alloc ?_ _)); refine blk_put (cs := #[.int .u64 t229, .slice Ao50 t230.length co50, .int .i64 t233, .string (⟨#[]⟩ : ByteArray)]) ?_ 3 _ rfl; (with_reducible repeat (first | refine blk_drewN ?_ _ | refine blk_drew ?_ | refine blk_alloc ?_ _)); refine blk_put (cs := #[.int .u64 t229, .slice Ao50 t230.length co50, .int .i64 0, .string (⟨#[]⟩ : ByteArray)]) ?_ 2 _ rfl; (with_reducible repeat (first | refine blk_drewN ?_ _ | refine blk_drew ?_ | refine blk_alloc ?_ _)); refine blk_put (cs := #[.int .u64 t229, .slice none 0 0, .int .i64 0, .string (⟨#[]⟩ : ByteArray)]) ?_ 1 _ rfl; (with_reducible repeat (first | refine blk_drewN ?_ _ | refine blk_drew ?_ | refine blk_alloc ?_ _)); refine blk_put (cs := #[.int .u64 0, .slice none 0 0, .int .i64 0, .string (⟨#[]⟩ : ByteArray)]) ?_ 0 _ rfl; (with_reducible repeat (first | refine blk_drewN ?_ _ | refine blk_drew ?_ | refine blk_alloc ?_ _)); exact BK236.out⟩
        have n4_ : Aside0 (Below w.heap.size w ((((w47.setCell ⟨gb236, 0, none⟩ (.int .u64 t229)).setCell ⟨gb236, 1, none⟩ (.slice Ao50 t230.length co50)).setCell ⟨gb236, 2, none⟩ (.int .i64 t233)).setCell ⟨gb236, 3, none⟩ (.string t234))) := ⟨by repeat (first | (with_reducible first | exact HB.out | apply below_alloc | apply pw_below_drewN | apply below_drew1 | refine below_set ?_ GE208.out | refine below_set ?_ GE236.out) | exact HB.out)⟩
        (try clear HO227)
        (try clear HO232)
        (try clear BK208)
        (try clear BK236)
        (try clear HB)
        generalize ((((w47.setCell ⟨gb236, 0, none⟩ (.int .u64 t229)).setCell ⟨gb236, 1, none⟩ (.slice Ao50 t230.length co50)).setCell ⟨gb236, 2, none⟩ (.int .i64 t233)).setCell ⟨gb236, 3, none⟩ (.string t234)) = w51 at n0_ n1_ n2_ n3_ n4_ ⊢
        have HO227 := n0_
        have HO232 := n1_
        have BK208 := n2_
        have BK236 := n3_
        have HB := n4_
        clear n0_ n1_ n2_ n3_ n4_
        have n0_ := Aside0.mk (Kd.R_drew HO227.out)
        have n1_ := Aside0.mk (Kd.R_drew HO232.out)
        have n2_ := Aside0.mk (blk_drew BK208.out)
        have n3_ := Aside0.mk (blk_drew BK236.out)
        have n4_ := Aside0.mk (below_drew1 HB.out)
        clear HO227
        clear HO232
        clear BK208
        clear BK236
        clear HB
        have HO227 := n0_
        have HO232 := n1_
        have BK208 := n2_
        have BK236 := n3_
        have HB := n4_
        clear n0_ n1_ n2_ n3_ n4_
        refine start_ (n := 10) (S := fun w' => w'.cell? ⟨gb236, 0, none⟩ = some (.int .u64 t229) ∧ w'.cell? ⟨gb236, 1, none⟩ = some (.slice Ao50 t230.length co50) ∧ w'.cell? ⟨gb236, 2, none⟩ = some (.int .i64 t233) ∧ w'.cell? ⟨gb236, 3, none⟩ = some (.string t234) ∧ w'.cell? ⟨gb208, 0, none⟩ = some (.int .u64 a1_0) ∧ w'.cell? ⟨gb208, 1, none⟩ = some (.slice A1_1 l1_1.length c1_1) ∧ w'.cell? ⟨gb208, 2, none⟩ = some (.int .i64 a1_2) ∧ w'.cell? ⟨gb208, 3, none⟩ = some (.string a1_3)) (ds := []) #[false, false, false, false, false, false, false, false, false, false] (by kernel_rfl) rfl rfl ⟨(blk_cell BK236.out 0).trans rfl, (blk_cell BK236.out 1).trans rfl, (blk_cell BK236.out 2).trans rfl, (blk_cell BK236.out 3).trans rfl, (blk_cell BK208.out 0).trans rfl, (blk_cell BK208.out 1).trans rfl, (blk_cell BK208.out 2).trans rfl, (blk_cell BK208.out 3).trans rfl⟩ (fun hHeld => ?_); refine with_tabW forebearlaw08_ObjectBack.tab11 forebearlaw08_ObjectBack.bits11 (fun HT_ HW_ => ?_)
        generalize w51.drew = w52 at HO227 HO232 BK208 BK236 HB hHeld ⊢
        refine pure_ (i := 0) (N := some 59) (v := ?_) (a' := ?_) #[true, false, false, false, false, false, false, false, false, false] rfl rfl (any_of HT_.out (by kernel_rfl)) (fun _ _ _ h => h) (Or.inl ⟨by rfl, ?_⟩) ?_ ?_
        rotate_left
        ·intro w'
         go_simp
         with_reducible rfl
        rotate_left
        ·simp only [Act.put, List.setIfInBounds_toArray, List.set_cons_zero, List.set_cons_succ, i64_w, i32_w]
         rfl
        refine pure_ (i := 1) (N := some 60) (v := ?_) (a' := ?_) #[true, true, false, false, false, false, false, false, false, false] rfl rfl (any_of HT_.out (by kernel_rfl)) (fun _ _ _ h => h) (Or.inl ⟨by rfl, ?_⟩) ?_ ?_
        rotate_left
        ·intro w'
         go_simp
         with_reducible rfl
        rotate_left
        ·simp only [Act.put, List.setIfInBounds_toArray, List.set_cons_zero, List.set_cons_succ, i64_w, i32_w]
         rfl
        refine pure_ (i := 2) (N := some 61) (v := ?_) (a' := ?_) #[true, true, true, false, false, false, false, false, false, false] rfl rfl (any_of HT_.out (by kernel_rfl)) (fun _ _ _ h => h) (Or.inl ⟨by rfl, ?_⟩) ?_ ?_
        rotate_left
        ·intro w'
         go_simp
         with_reducible rfl
        rotate_left
        ·simp only [Act.put, List.setIfInBounds_toArray, List.set_cons_zero, List.set_cons_succ, i64_w, i32_w]
         rfl
        refine take_ (i := 3) (N := some 62) (v := ?_) (a' := ?_) #[true, true, true, true, false, false, false, false, false, false] rfl rfl (take_ofW HT_.out HW_.out (by kernel_rfl)) (fun _ _ _ h => h) (Or.inl ⟨by rfl, ?_⟩) hHeld ?_ ?_
        rotate_left
        ·rintro w' ⟨s0, s1, s2, s3, s4, s5, s6, s7⟩
         go_simp
         with_reducible rfl
        rotate_left
        ·simp only [Act.put, List.setIfInBounds_toArray, List.set_cons_zero, List.set_cons_succ, i64_w, i32_w]
         rfl
        refine take_ (i := 5) (N := some 64) (v := ?_) (a' := ?_) #[true, true, true, true, false, true, false, false, false, false] rfl rfl (take_ofW HT_.out HW_.out (by kernel_rfl)) (fun _ _ _ h => h) (Or.inl ⟨by rfl, ?_⟩) hHeld ?_ ?_
        rotate_left
        ·rintro w' ⟨s0, s1, s2, s3, s4, s5, s6, s7⟩
         go_simp
         with_reducible rfl
        rotate_left
        ·simp only [Act.put, List.setIfInBounds_toArray, List.set_cons_zero, List.set_cons_succ, i64_w, i32_w]
         rfl
        refine one_ (i := 4) (N := some 63) #[true, true, true, true, true, true, false, false, false, false] rfl rfl (one_of HT_.out (by kernel_rfl)) (by decide) (fun K hK => ?_)
        refine goes_ Try.func32 (by kernel_rfl) rfl #[.agg #[.int .u64 t229, .slice Ao50 t230.length co50, .int .i64 t233, .string t234]] (by rfl) rfl rfl (by (try simp only [List.map_toArray, List.map_cons, List.map_nil]); first | done | rfl | (simp only [List.length_drop, List.length_take]; rfl)) ?_
        with_reducible refine (forebearlaw08_Commit.calls kj6 t229 _ _ t230 t233 t234 t237 t238 t241 t242 _ ?side1 ?side2 A41.out).mono ?_
        (case side1 => repeat (first | exact (Kd.R_reads' HO232.out).2.2 | (with_reducible refine Kd.C_alloc ?_ _) | (with_reducible refine Kd.C_drewN ?_ _) | (with_reducible refine Kd.C_drew ?_)))
        (case side2 => exact (Kd.R_reads' HO232.out).2.1)
        rintro e w53 ⟨v239, rfl, ho0, hb⟩
        refine ⟨_, rfl, ?_⟩
        have n0_ := Aside0.mk (Kd.R_below (by (with_reducible repeat (first | apply Kd.R_alloc | apply Kd.R_drewN | apply Kd.R_drew)); exact HO227.out) hb)
        have n1_ := Aside0.mk (Kd.R_below (by (with_reducible repeat (first | apply Kd.R_alloc | apply Kd.R_drewN | apply Kd.R_drew)); exact HO232.out) hb)
        have n2_ := Aside0.mk (Kd.R_lower ho0 (below_size (by repeat (first | (with_reducible first | exact HB.out | apply below_alloc | apply pw_below_drewN | apply below_drew1 | refine below_set ?_ GE208.out | refine below_set ?_ GE236.out) | exact HB.out))))
        have n3_ := Aside0.mk (blk_below (g := gb208) (o := .cells #[.int .u64 a1_0, .slice A1_1 l1_1.length c1_1, .int .i64 a1_2, .string a1_3] 77 (0, 0)) (by (with_reducible repeat (first | refine blk_drewN ?_ _ | refine blk_drew ?_ | refine blk_alloc ?_ _)); exact BK208.out) hb)
        have n4_ := Aside0.mk (blk_below (g := gb236) (o := .cells #[.int .u64 t229, .slice Ao50 t230.length co50, .int .i64 t233, .string t234] 77 (0, 0)) (by (with_reducible repeat (first | refine blk_drewN ?_ _ | refine blk_drew ?_ | refine blk_alloc ?_ _)); exact BK236.out) hb)
        have n5_ := Aside0.mk (below_step (by repeat (first | (with_reducible first | exact HB.out | apply below_alloc | apply pw_below_drewN | apply below_drew1 | refine below_set ?_ GE208.out | refine below_set ?_ GE236.out) | exact HB.out)) hb)
        clear HO227
        clear HO232
        clear BK208
        clear BK236
        clear HB
        have HO227 := n0_
        have HO232 := n1_
        have HO240 := n2_
        have BK208 := n3_
        have BK236 := n4_
        have HB := n5_
        clear n0_ n1_ n2_ n3_ n4_ n5_
        (try clear hb)
        (try clear hb2)
        (try clear hk)
        (try clear hi)
        (try clear ho0)
        refine hK.out _ _ ⟨(blk_cell BK236.out 0).trans rfl, (blk_cell BK236.out 1).trans rfl, (blk_cell BK236.out 2).trans rfl, (blk_cell BK236.out 3).trans rfl, (blk_cell BK208.out 0).trans rfl, (blk_cell BK208.out 1).trans rfl, (blk_cell BK208.out 2).trans rfl, (blk_cell BK208.out 3).trans rfl⟩ (fun hHeld => ?_)
        clear hK K
        refine norm_ (a' := ?_) ?_ ?_
        rotate_left
        ·show Act.put _ (some 63) _ = _
         simp only [Act.put, List.setIfInBounds_toArray, List.set_cons_zero, List.set_cons_succ, i64_w, i32_w]
         rfl
        refine one_ (i := 6) (N := some 65) #[true, true, true, true, true, true, true, false, false, false] rfl rfl (one_of HT_.out (by kernel_rfl)) (by decide) (fun K hK => ?_)
        refine goes_ Try.func32 (by kernel_rfl) rfl #[.agg #[.int .u64 a1_0, .slice A1_1 l1_1.length c1_1, .int .i64 a1_2, .string a1_3]] (by rfl) rfl rfl (by (try simp only [List.map_toArray, List.map_cons, List.map_nil]); first | done | rfl | (simp only [List.length_drop, List.length_take]; rfl)) ?_
        with_reducible refine (forebearlaw08_Commit.calls kj6 a1_0 _ _ l1_1 a1_2 a1_3 t243 t244 t247 t248 _ ?side1 ?side2 A42.out).mono ?_
        (case side1 => repeat (first | exact (Kd.C_below HR1_1.out HB.out) | (with_reducible refine Kd.C_alloc ?_ _) | (with_reducible refine Kd.C_drewN ?_ _) | (with_reducible refine Kd.C_drew ?_)))
        (case side2 => exact HC1_1.out)
        rintro e w54 ⟨v245, rfl, ho0, hb⟩
        refine ⟨_, rfl, ?_⟩
        have n0_ := Aside0.mk (Kd.R_below (by (with_reducible repeat (first | apply Kd.R_alloc | apply Kd.R_drewN | apply Kd.R_drew)); exact HO227.out) hb)
        have n1_ := Aside0.mk (Kd.R_below (by (with_reducible repeat (first | apply Kd.R_alloc | apply Kd.R_drewN | apply Kd.R_drew)); exact HO232.out) hb)
        have n2_ := Aside0.mk (Kd.R_elder' (by (with_reducible repeat (first | apply Kd.R_alloc | apply Kd.R_drewN | apply Kd.R_drew)); exact HO240.out) (Kd.R_base ho0) hb)
        have n3_ := Aside0.mk (Kd.R_lower (Kd.R_new' ho0 (Kd.R_lt (by (with_reducible repeat (first | apply Kd.R_alloc | apply Kd.R_drewN | apply Kd.R_drew)); exact HO240.out))) (below_size (by repeat (first | (with_reducible first | exact HB.out | apply below_alloc | apply pw_below_drewN | apply below_drew1 | refine below_set ?_ GE208.out | refine below_set ?_ GE236.out) | exact HB.out))))
        have n4_ := Aside0.mk (blk_below (g := gb208) (o := .cells #[.int .u64 a1_0, .slice A1_1 l1_1.length c1_1, .int .i64 a1_2, .string a1_3] 77 (0, 0)) (by (with_reducible repeat (first | refine blk_drewN ?_ _ | refine blk_drew ?_ | refine blk_alloc ?_ _)); exact BK208.out) hb)
        have n5_ := Aside0.mk (blk_below (g := gb236) (o := .cells #[.int .u64 t229, .slice Ao50 t230.length co50, .int .i64 t233, .string t234] 77 (0, 0)) (by (with_reducible repeat (first | refine blk_drewN ?_ _ | refine blk_drew ?_ | refine blk_alloc ?_ _)); exact BK236.out) hb)
        have n6_ := Aside0.mk (below_step (by repeat (first | (with_reducible first | exact HB.out | apply below_alloc | apply pw_below_drewN | apply below_drew1 | refine below_set ?_ GE208.out | refine below_set ?_ GE236.out) | exact HB.out)) hb)
        clear HO227
        clear HO232
        clear HO240
        clear BK208
        clear BK236
        clear HB
        have HO227 := n0_
        have HO232 := n1_
        have HO240 := n2_
        have HO246 := n3_
        have BK208 := n4_
        have BK236 := n5_
        have HB := n6_
        clear n0_ n1_ n2_ n3_ n4_ n5_ n6_
        (try clear hb)
        (try clear hb2)
        (try clear hk)
        (try clear hi)
        (try clear ho0)
        obtain ⟨Ao55, co55, eo55⟩ := Kd.R_slice HO240.out
        (first | subst eo55 | (injection eo55 with f1_ f2_ f3_; have f4_ := f1_.symm; have f5_ := f3_.symm; clear f1_ f2_ f3_; subst f4_; subst f5_))
        obtain ⟨Ao56, co56, eo56⟩ := Kd.R_slice HO246.out
        (first | subst eo56 | (injection eo56 with f1_ f2_ f3_; have f4_ := f1_.symm; have f5_ := f3_.symm; clear f1_ f2_ f3_; subst f4_; subst f5_))
        refine hK.out _ _ ⟨(blk_cell BK236.out 0).trans rfl, (blk_cell BK236.out 1).trans rfl, (blk_cell BK236.out 2).trans rfl, (blk_cell BK236.out 3).trans rfl, (blk_cell BK208.out 0).trans rfl, (blk_cell BK208.out 1).trans rfl, (blk_cell BK208.out 2).trans rfl, (blk_cell BK208.out 3).trans rfl⟩ (fun hHeld => ?_)
        clear hK K
        refine norm_ (a' := ?_) ?_ ?_
        rotate_left
        ·show Act.put _ (some 65) _ = _
         simp only [Act.put, List.setIfInBounds_toArray, List.set_cons_zero, List.set_cons_succ, i64_w, i32_w]
         rfl
        refine one_ (i := 7) (N := some 66) #[true, true, true, true, true, true, true, true, false, false] rfl rfl (one_of HT_.out (by kernel_rfl)) (by decide) (fun K hK => ?_)
        refine goes_ Try.func35 (by kernel_rfl) rfl #[.agg #[.int .u64 t237, .slice Ao55 t238.length co55, .int .i64 t241, .string t242], .agg #[.int .u64 t243, .slice Ao56 t244.length co56, .int .i64 t247, .string t248]] (by rfl) rfl rfl (by (try simp only [List.map_toArray, List.map_cons, List.map_nil]); first | done | rfl | (simp only [List.length_drop, List.length_take]; rfl)) ?_
        with_reducible refine (forebearref08_SameCommit.calls kj6 t237 _ _ t238 t241 t242 t243 _ _ t244 t247 t248 true _ ?side1 ?side2 ?side3 ?side4 A43.out).mono ?_
        (case side1 => repeat (first | exact (Kd.R_reads' HO240.out).2.2 | (with_reducible refine Kd.C_alloc ?_ _) | (with_reducible refine Kd.C_drewN ?_ _) | (with_reducible refine Kd.C_drew ?_)))
        (case side2 => exact (Kd.R_reads' HO240.out).2.1)
        (case side3 => repeat (first | exact (Kd.R_reads' HO246.out).2.2 | (with_reducible refine Kd.C_alloc ?_ _) | (with_reducible refine Kd.C_drewN ?_ _) | (with_reducible refine Kd.C_drew ?_)))
        (case side4 => exact (Kd.R_reads' HO246.out).2.1)
        rintro e w57 ⟨rfl, hb⟩
        refine ⟨_, rfl, ?_⟩
        have n0_ := Aside0.mk (Kd.R_below (by (with_reducible repeat (first | apply Kd.R_alloc | apply Kd.R_drewN | apply Kd.R_drew)); exact HO227.out) hb)
        have n1_ := Aside0.mk (Kd.R_below (by (with_reducible repeat (first | apply Kd.R_alloc | apply Kd.R_drewN | apply Kd.R_drew)); exact HO232.out) hb)
        have n2_ := Aside0.mk (Kd.R_below (by (with_reducible repeat (first | apply Kd.R_alloc | apply Kd.R_drewN | apply Kd.R_drew)); exact HO240.out) hb)
        have n3_ := Aside0.mk (Kd.R_below (by (with_reducible repeat (first | apply Kd.R_alloc | apply Kd.R_drewN | apply Kd.R_drew)); exact HO246.out) hb)
        have n4_ := Aside0.mk (blk_below (g := gb208) (o := .cells #[.int .u64 a1_0, .slice A1_1 l1_1.length c1_1, .int .i64 a1_2, .string a1_3] 77 (0, 0)) (by (with_reducible repeat (first | refine blk_drewN ?_ _ | refine blk_drew ?_ | refine blk_alloc ?_ _)); exact BK208.out) hb)
        have n5_ := Aside0.mk (blk_below (g := gb236) (o := .cells #[.int .u64 t229, .slice Ao50 t230.length co50, .int .i64 t233, .string t234] 77 (0, 0)) (by (with_reducible repeat (first | refine blk_drewN ?_ _ | refine blk_drew ?_ | refine blk_alloc ?_ _)); exact BK236.out) hb)
        have n6_ := Aside0.mk (below_step (by repeat (first | (with_reducible first | exact HB.out | apply below_alloc | apply pw_below_drewN | apply below_drew1 | refine below_set ?_ GE208.out | refine below_set ?_ GE236.out) | exact HB.out)) hb)
        clear HO227
        clear HO232
        clear HO240
        clear HO246
        clear BK208
        clear BK236
        clear HB
        have HO227 := n0_
        have HO232 := n1_
        have HO240 := n2_
        have HO246 := n3_
        have BK208 := n4_
        have BK236 := n5_
        have HB := n6_
        clear n0_ n1_ n2_ n3_ n4_ n5_ n6_
        (try clear hb)
        (try clear hb2)
        (try clear hk)
        (try clear hi)
        refine hK.out _ _ ⟨(blk_cell BK236.out 0).trans rfl, (blk_cell BK236.out 1).trans rfl, (blk_cell BK236.out 2).trans rfl, (blk_cell BK236.out 3).trans rfl, (blk_cell BK208.out 0).trans rfl, (blk_cell BK208.out 1).trans rfl, (blk_cell BK208.out 2).trans rfl, (blk_cell BK208.out 3).trans rfl⟩ (fun hHeld => ?_)
        clear hK K
        refine norm_ (a' := ?_) ?_ ?_
        rotate_left
        ·show Act.put _ (some 66) _ = _
         simp only [Act.put, List.setIfInBounds_toArray, List.set_cons_zero, List.set_cons_succ, i64_w, i32_w]
         rfl
        refine pure_ (i := 8) (N := some 67) (v := ?_) (a' := ?_) #[true, true, true, true, true, true, true, true, true, false] rfl rfl (any_of HT_.out (by kernel_rfl)) (fun _ _ _ h => h) (Or.inl ⟨by rfl, ?_⟩) ?_ ?_
        rotate_left
        ·intro w'
         go_simp
         with_reducible rfl
        rotate_left
        ·simp only [Act.put, List.setIfInBounds_toArray, List.set_cons_zero, List.set_cons_succ, i64_w, i32_w]
         rfl
        refine pure_ (i := 9) (N := some 68) (v := ?_) (a' := ?_) #[true, true, true, true, true, true, true, true, true, true] rfl rfl (any_of HT_.out (by kernel_rfl)) (fun _ _ _ h => h) (Or.inl ⟨by rfl, ?_⟩) ?_ ?_
        rotate_left
        ·intro w'
         go_simp
         with_reducible rfl
        rotate_left
        ·simp only [Act.put, List.setIfInBounds_toArray, List.set_cons_zero, List.set_cons_succ, i64_w, i32_w]
         rfl
        refine done_ (done_of HT_.out (by kernel_rfl)) ?_
        try go_wp2
        go_meet
        case rel => exact ⟨_, H', ⟨by have := HJ6.out; first | omega | exact Nat.le_refl _⟩, ⟨by (with_reducible repeat (first | refine blk_drewN ?_ _ | refine blk_drew ?_ | refine blk_alloc ?_ _)); exact BK208.out⟩, ⟨by repeat (first | (with_reducible first | exact HB.out | apply below_alloc | apply pw_below_drewN | apply below_drew1 | refine below_set ?_ GE208.out | refine below_set ?_ GE236.out) | exact HB.out)⟩⟩
       ·replace c44 := Bool.eq_false_iff.mpr c44
        subst c44
        have H1 : (some false) = some r := by rw [if_neg (show ¬ (false = true) by decide)] at H; exact H
        clear H
        have H := H1
        clear H1
        exact absurd (Option.some.inj H) (by rw [HR_.out]; decide)
      ·rw [if_neg c40] at H
       have c40b0 : (t235 == 0) = false := beq_eq_false_iff_ne.mpr c40
       have c40b1 : (t235 != 0) = true := bne_iff_ne.mpr c40
       exact absurd (Option.some.inj H) (by rw [HR_.out]; decide)
     ·rw [if_neg c38] at H
      have c38b0 : (t228 == 0) = false := beq_eq_false_iff_ne.mpr c38
      have c38b1 : (t228 != 0) = true := bne_iff_ne.mpr c38
      (first | rw [c38b0] | (simp only [i64_w, i32_w]; rw [c38b0]) | skip)
      have H' := Aside0.mk H
      clear H
      go_wp2
      go_meet
      case rel => exact ⟨_, H', ⟨by have := HJ6.out; first | omega | exact Nat.le_refl _⟩, ⟨by (with_reducible repeat (first | refine blk_drewN ?_ _ | refine blk_drew ?_ | refine blk_alloc ?_ _)); exact BK208.out⟩, ⟨by repeat (first | (with_reducible first | exact HB.out | apply below_alloc | apply pw_below_drewN | apply below_drew1 | refine below_set ?_ GE208.out) | exact HB.out)⟩⟩
    case rest =>
     clear HC35
     try clear c1
     try clear p2
     try clear c3
     try clear c4
     try clear c6
     try clear c7
     try clear c32
     try clear c33
     try clear c35
     try clear c38
     try clear c38b0
     try clear c38b1
     try clear c40
     try clear c40b0
     try clear c40b1
     try clear c44
     try clear c48
     try clear c61
     try clear c74
     try clear hcz49_0
     try clear hcz49_1
     try clear hcz49_2
     try clear hcz49_3
     try clear hcz62_0
     try clear hcz62_1
     try clear hcz62_2
     try clear hcz62_3
     try clear hcz75_0
     try clear hcz75_1
     try clear hcz75_2
     try clear hcz75_3
     try clear hfz49_0
     try clear hfz49_1
     try clear hfz49_2
     try clear hfz49_3
     try clear hfz62_0
     try clear hfz62_1
     try clear hfz62_2
     try clear hfz62_3
     try clear hfz75_0
     try clear hfz75_1
     try clear hfz75_2
     try clear hfz75_3
     obtain ⟨kq, HA, HJ34, BK208, HB⟩ := hcut
     cases kq with
     | zero => exact absurd HA.out (by simp [forebearlaw08_ObjectBack.j1])
     | succ kj34 =>
      have H := HA.out
      clear HA
      simp only [forebearlaw08_ObjectBack.j1] at H
      replace H := Option.bind_eq_some_iff.mp H
      obtain ⟨⟨t250, t251⟩, A790, H⟩ := H
      replace H : (if t251 = 0 then ((object_Tree.f kj34 t250).bind fun bt254 => (if bt254.2 = 0 then (if (strOfNums bt254.1).toList = (strOfNums l2).toList then (forebearlaw08_ObjectBack.j2 kj34 l2) else (some false)) else (some false))) else (if (t250.length : Int) = 0 then (if t251 = 9 then (forebearlaw08_ObjectBack.j2 kj34 l2) else (some false)) else (some false))) = some r := H
      have A79 := Aside0.mk A790
      clear A790
      have HC80 := Aside0.mk H
      clear H
      go_upto_if 75 with (first | ((with_reducible refine gate_callee (f := 25) rfl ?_); refine goesL_ (some 71) rfl rfl Try.func25 (by kernel_rfl) rfl #[.slice A2 l2.length c2] rfl (by (try simp only [List.map_toArray, List.map_cons, List.map_nil]); first | done | rfl | (simp only [List.length_drop, List.length_take]; rfl)) ?_; (with_reducible refine (object_ReadTree.calls kj34 _ _ l2 t250 t251 _ ?side1 ?side2 A79.out).mono ?_); (case side1 => repeat (first | exact (Kd.C_below HR2.out HB.out) | (with_reducible refine Kd.C_alloc ?_ _) | (with_reducible refine Kd.C_drewN ?_ _) | (with_reducible refine Kd.C_drew ?_))); (case side2 => exact HC2.out); rintro e w81 ⟨v252, rfl, ho0, hb⟩; refine ⟨_, rfl, ?_⟩; have n0_ := Aside0.mk (Kd.R_lower ho0 (below_size (by repeat (first | (with_reducible first | exact HB.out | apply below_alloc | apply pw_below_drewN | apply below_drew1 | refine below_set ?_ GE208.out) | exact HB.out)))); have n1_ := Aside0.mk (blk_below (g := gb208) (o := .cells #[.int .u64 a1_0, .slice A1_1 l1_1.length c1_1, .int .i64 a1_2, .string a1_3] 77 (0, 0)) (by (with_reducible repeat (first | refine blk_drewN ?_ _ | refine blk_drew ?_ | refine blk_alloc ?_ _)); exact BK208.out) hb); have n2_ := Aside0.mk (below_step (by repeat (first | (with_reducible first | exact HB.out | apply below_alloc | apply pw_below_drewN | apply below_drew1 | refine below_set ?_ GE208.out) | exact HB.out)) hb); clear BK208; clear HB; have HO253 := n0_; have BK208 := n1_; have HB := n2_; clear n0_ n1_ n2_; (try clear hb); (try clear hb2); (try clear hk); (try clear hi); (try clear ho0)))
      (try simp only [Act.put, List.setIfInBounds_toArray, List.set_cons_zero, List.set_cons_succ])
      go_cut [] (fun wc => ∃ (kq : Nat), Aside0 (forebearlaw08_ObjectBack.j2 kq l2 = some r) ∧ Aside0 (kq ≤ kj34) ∧ Aside0 (wc.heap[gb208]? = some (.cells #[.int .u64 a1_0, (.slice A1_1 l1_1.length c1_1), .int .i64 a1_2, .string a1_3] 77 (0, 0))) ∧ Aside0 (Below w.heap.size w wc))
      case first =>
       have H := HC80.out
       clear HC80
       by_cases c82 : t251 = 0
       ·rw [if_pos c82] at H
        have c82b0 : (t251 == 0) = true := beq_iff_eq.mpr c82
        have c82b1 : (t251 != 0) = false := bne_eq_false_iff_eq.mpr c82
        clear c82
        (first | rw [c82b0] | (simp only [i64_w, i32_w]; rw [c82b0]) | skip)
        replace H := Option.bind_eq_some_iff.mp H
        obtain ⟨⟨t254, t255⟩, A830, H⟩ := H
        replace H : (if t255 = 0 then (if (strOfNums t254).toList = (strOfNums l2).toList then (forebearlaw08_ObjectBack.j2 kj34 l2) else (some false)) else (some false)) = some r := H
        have A83 := Aside0.mk A830
        clear A830
        by_cases c84 : t255 = 0
        ·rw [if_pos c84] at H
         have c84b0 : (t255 == 0) = true := beq_iff_eq.mpr c84
         have c84b1 : (t255 != 0) = false := bne_eq_false_iff_eq.mpr c84
         clear c84
         by_cases c85 : (strOfNums t254).toList = (strOfNums l2).toList
         ·rw [if_pos c85] at H
          have c85b0 : ((strOfNums t254).toList == (strOfNums l2).toList) = true := beq_iff_eq.mpr c85
          have c85b1 : ((strOfNums t254).toList != (strOfNums l2).toList) = false := bne_eq_false_iff_eq.mpr c85
          clear c85
          have H' := Aside0.mk H
          clear H
          obtain ⟨Ao86, co86, eo86⟩ := Kd.R_slice HO253.out
          subst eo86
          go_wp2_with (first | ((with_reducible refine gate_callee (f := 22) rfl ?_); refine goesL_ (some 78) rfl rfl Try.func22 (by kernel_rfl) rfl #[.slice Ao86 t250.length co86] rfl (by (try simp only [List.map_toArray, List.map_cons, List.map_nil]); first | done | rfl | (simp only [List.length_drop, List.length_take]; rfl)) ?_; (with_reducible refine (object_Tree.calls kj34 _ _ t250 t254 t255 _ ?side1 ?side2 A83.out).mono ?_); (case side1 => repeat (first | exact (Kd.R_reads' HO253.out).2.2 | (with_reducible refine Kd.C_alloc ?_ _) | (with_reducible refine Kd.C_drewN ?_ _) | (with_reducible refine Kd.C_drew ?_))); (case side2 => exact (Kd.R_reads' HO253.out).2.1); rintro e w87 ⟨v256, rfl, ho0, hb⟩; refine ⟨_, rfl, ?_⟩; have n0_ := Aside0.mk (Kd.R_below (by (with_reducible repeat (first | apply Kd.R_alloc | apply Kd.R_drewN | apply Kd.R_drew)); exact HO253.out) hb); have n1_ := Aside0.mk (Kd.R_lower ho0 (below_size (by repeat (first | (with_reducible first | exact HB.out | apply below_alloc | apply pw_below_drewN | apply below_drew1 | refine below_set ?_ GE208.out) | exact HB.out)))); have n2_ := Aside0.mk (blk_below (g := gb208) (o := .cells #[.int .u64 a1_0, .slice A1_1 l1_1.length c1_1, .int .i64 a1_2, .string a1_3] 77 (0, 0)) (by (with_reducible repeat (first | refine blk_drewN ?_ _ | refine blk_drew ?_ | refine blk_alloc ?_ _)); exact BK208.out) hb); have n3_ := Aside0.mk (below_step (by repeat (first | (with_reducible first | exact HB.out | apply below_alloc | apply pw_below_drewN | apply below_drew1 | refine below_set ?_ GE208.out) | exact HB.out)) hb); clear HO253; clear BK208; clear HB; have HO253 := n0_; have HO257 := n1_; have BK208 := n2_; have HB := n3_; clear n0_ n1_ n2_ n3_; (try clear hb); (try clear hb2); (try clear hk); (try clear hi); (try clear ho0); have hcw88 := fun n_ : Nat => own_string (P := Try.prog) Try.underlying53 Try.underlying5 Try.underlying9 (Kd.own_of_R (Kd.R_drewN HO257.out n_)); have hcv89 := own_string (P := Try.prog) Try.underlying53 Try.underlying5 Try.underlying9 (Kd.own_of_R HO257.out); have hcv90 := Kd.C_string (P := Try.prog) (A := A2) (c := c2) Try.underlying53 Try.underlying5 Try.underlying9 (Kd.C_below HR2.out HB.out); have hcw91 := fun n_ : Nat => Kd.C_string (P := Try.prog) (A := A2) (c := c2) Try.underlying53 Try.underlying5 Try.underlying9 (Kd.C_drewN ((Kd.C_below HR2.out HB.out)) n_)))
          go_meet
          case rel => exact ⟨_, H', ⟨by have := HJ6.out; have := HJ34.out; first | omega | exact Nat.le_refl _⟩, ⟨by (with_reducible repeat (first | refine blk_drewN ?_ _ | refine blk_drew ?_ | refine blk_alloc ?_ _)); exact BK208.out⟩, ⟨by repeat (first | (with_reducible first | exact HB.out | apply below_alloc | apply pw_below_drewN | apply below_drew1 | refine below_set ?_ GE208.out) | exact HB.out)⟩⟩
         ·rw [if_neg c85] at H
          have c85b0 : ((strOfNums t254).toList == (strOfNums l2).toList) = false := beq_eq_false_iff_ne.mpr c85
          have c85b1 : ((strOfNums t254).toList != (strOfNums l2).toList) = true := bne_iff_ne.mpr c85
          exact absurd (Option.some.inj H) (by rw [HR_.out]; decide)
        ·rw [if_neg c84] at H
         have c84b0 : (t255 == 0) = false := beq_eq_false_iff_ne.mpr c84
         have c84b1 : (t255 != 0) = true := bne_iff_ne.mpr c84
         exact absurd (Option.some.inj H) (by rw [HR_.out]; decide)
       ·rw [if_neg c82] at H
        have c82b0 : (t251 == 0) = false := beq_eq_false_iff_ne.mpr c82
        have c82b1 : (t251 != 0) = true := bne_iff_ne.mpr c82
        (first | rw [c82b0] | (simp only [i64_w, i32_w]; rw [c82b0]) | skip)
        by_cases c100 : (t250.length : Int) = 0
        ·rw [if_pos c100] at H
         have c100b0 : ((t250.length : Int) == 0) = true := beq_iff_eq.mpr c100
         have c100b1 : ((t250.length : Int) != 0) = false := bne_eq_false_iff_eq.mpr c100
         clear c100
         by_cases c101 : t251 = 9
         ·rw [if_pos c101] at H
          have c101b0 : (t251 == 9) = true := beq_iff_eq.mpr c101
          have c101b1 : (t251 != 9) = false := bne_eq_false_iff_eq.mpr c101
          clear c101
          have H' := Aside0.mk H
          clear H
          obtain ⟨Ao102, co102, eo102⟩ := Kd.R_slice HO253.out
          subst eo102
          go_wp2
          go_meet
          case rel => exact ⟨_, H', ⟨by have := HJ6.out; have := HJ34.out; first | omega | exact Nat.le_refl _⟩, ⟨by (with_reducible repeat (first | refine blk_drewN ?_ _ | refine blk_drew ?_ | refine blk_alloc ?_ _)); exact BK208.out⟩, ⟨by repeat (first | (with_reducible first | exact HB.out | apply below_alloc | apply pw_below_drewN | apply below_drew1 | refine below_set ?_ GE208.out) | exact HB.out)⟩⟩
         ·rw [if_neg c101] at H
          have c101b0 : (t251 == 9) = false := beq_eq_false_iff_ne.mpr c101
          have c101b1 : (t251 != 9) = true := bne_iff_ne.mpr c101
          exact absurd (Option.some.inj H) (by rw [HR_.out]; decide)
        ·rw [if_neg c100] at H
         have c100b0 : ((t250.length : Int) == 0) = false := beq_eq_false_iff_ne.mpr c100
         have c100b1 : ((t250.length : Int) != 0) = true := bne_iff_ne.mpr c100
         have c100b2 : ¬ (t250 = []) := fun h_ => c100 (by rw [h_]; rfl)
         exact absurd (Option.some.inj H) (by rw [HR_.out]; decide)
      case rest =>
       clear HC80
       try clear c1
       try clear c2
       try clear p2
       try clear c3
       try clear c4
       try clear c6
       try clear c7
       try clear c8
       try clear hcv8
       try clear hcv9
       try clear c10
       try clear c22
       try clear c25
       try clear c32
       try clear c33
       try clear c35
       try clear c38
       try clear c38b0
       try clear c38b1
       try clear c40
       try clear c40b0
       try clear c40b1
       try clear c44
       try clear c48
       try clear c61
       try clear c74
       try clear c82
       try clear c82b0
       try clear c82b1
       try clear c84
       try clear c84b0
       try clear c84b1
       try clear c85
       try clear c85b0
       try clear c85b1
       try clear hcv89
       try clear hcv90
       try clear hcv95
       try clear hcv96
       try clear c100
       try clear c100b0
       try clear c100b1
       try clear c100b2
       try clear c101
       try clear c101b0
       try clear c101b1
       try clear hcz49_0
       try clear hcz49_1
       try clear hcz49_2
       try clear hcz49_3
       try clear hcz62_0
       try clear hcz62_1
       try clear hcz62_2
       try clear hcz62_3
       try clear hcz75_0
       try clear hcz75_1
       try clear hcz75_2
       try clear hcz75_3
       try clear hfz49_0
       try clear hfz49_1
       try clear hfz49_2
       try clear hfz49_3
       try clear hfz62_0
       try clear hfz62_1
       try clear hfz62_2
       try clear hfz62_3
       try clear hfz75_0
       try clear hfz75_1
       try clear hfz75_2
       try clear hfz75_3
       try clear p2
       obtain ⟨kq, HA, HJ79, BK208, HB⟩ := hcut
       cases kq with
       | zero => exact absurd HA.out (by simp [forebearlaw08_ObjectBack.j2])
       | succ kj79 =>
        have H := HA.out
        clear HA
        simp only [forebearlaw08_ObjectBack.j2] at H
        replace H := Option.bind_eq_some_iff.mp H
        obtain ⟨⟨t258, t259, t262, t263, t264⟩, A1050, H⟩ := H
        replace H : (if t264 = 0 then ((object_Commit.f kj79 t258 t259 t262 t263).bind fun bt266 => (if bt266.2 = 0 then (some ((strOfNums bt266.1).toList == (strOfNums l2).toList)) else (some false))) else (if t264 = 9 then ((forebearlaw08_Commit.f kj79 t258 t259 t262 t263).bind fun bt270 => ((forebearref08_SameCommit.f kj79 bt270.1 bt270.2.1 bt270.2.2.1 bt270.2.2.2 0 ([] : List Int) 0 (⟨#[]⟩ : ByteArray)).bind fun t276 => (some t276))) else (some false))) = some r := H
        have A105 := Aside0.mk A1050
        clear A1050
        by_cases c106 : t264 = 0
        ·rw [if_pos c106] at H
         have c106b0 : (t264 == 0) = true := beq_iff_eq.mpr c106
         have c106b1 : (t264 != 0) = false := bne_eq_false_iff_eq.mpr c106
         clear c106
         replace H := Option.bind_eq_some_iff.mp H
         obtain ⟨⟨t266, t269⟩, A1070, H⟩ := H
         replace H : (if t269 = 0 then (some ((strOfNums t266).toList == (strOfNums l2).toList)) else (some false)) = some r := H
         have A107 := Aside0.mk A1070
         clear A1070
         by_cases c108 : t269 = 0
         ·rw [if_pos c108] at H
          have c108b0 : (t269 == 0) = true := beq_iff_eq.mpr c108
          have c108b1 : (t269 != 0) = false := bne_eq_false_iff_eq.mpr c108
          clear c108
          obtain rfl := Option.some.inj H
          go_wp2_with (first | ((with_reducible refine gate_callee (f := 33) rfl ?_); refine goesL_ (some 99) rfl rfl Try.func33 (by kernel_rfl) rfl #[.slice A2 l2.length c2] rfl (by (try simp only [List.map_toArray, List.map_cons, List.map_nil]); first | done | rfl | (simp only [List.length_drop, List.length_take]; rfl)) ?_; (with_reducible refine (object_ReadCommit.calls kj79 _ _ l2 t258 t259 t262 t263 t264 _ ?side1 ?side2 A105.out).mono ?_); (case side1 => repeat (first | exact (Kd.C_below HR2.out HB.out) | (with_reducible refine Kd.C_alloc ?_ _) | (with_reducible refine Kd.C_drewN ?_ _) | (with_reducible refine Kd.C_drew ?_))); (case side2 => exact HC2.out); rintro e w109 ⟨v260, rfl, ho0, hb⟩; refine ⟨_, rfl, ?_⟩; have n0_ := Aside0.mk (Kd.R_lower ho0 (below_size (by repeat (first | (with_reducible first | exact HB.out | apply below_alloc | apply pw_below_drewN | apply below_drew1 | refine below_set ?_ GE208.out) | exact HB.out)))); have n1_ := Aside0.mk (blk_below (g := gb208) (o := .cells #[.int .u64 a1_0, .slice A1_1 l1_1.length c1_1, .int .i64 a1_2, .string a1_3] 77 (0, 0)) (by (with_reducible repeat (first | refine blk_drewN ?_ _ | refine blk_drew ?_ | refine blk_alloc ?_ _)); exact BK208.out) hb); have n2_ := Aside0.mk (below_step (by repeat (first | (with_reducible first | exact HB.out | apply below_alloc | apply pw_below_drewN | apply below_drew1 | refine below_set ?_ GE208.out) | exact HB.out)) hb); clear BK208; clear HB; have HO261 := n0_; have BK208 := n1_; have HB := n2_; clear n0_ n1_ n2_; (try clear hb); (try clear hb2); (try clear hk); (try clear hi); (try clear ho0)) | ((with_reducible refine gate_dst (N := 19) rfl ?_); refine box_event ?hg (N := 19) ?hd (cs := #[.int .u64 0, .slice none 0 0, .int .i64 0, .string (⟨#[]⟩ : ByteArray)]) (t := 77) ?hr ?_; (case hd => rfl); (case hg => rfl); (case hr => first | (go_simp; done) | (go_simp; rfl)); intro gb265 hg w110 hbox hb; have n0_ := Aside0.mk (Kd.R_below (by (with_reducible repeat (first | apply Kd.R_alloc | apply Kd.R_drewN | apply Kd.R_drew)); exact HO261.out) hb); have n1_ := Aside0.mk (blk_below (g := gb208) (o := .cells #[.int .u64 a1_0, .slice A1_1 l1_1.length c1_1, .int .i64 a1_2, .string a1_3] 77 (0, 0)) (by (with_reducible repeat (first | refine blk_drewN ?_ _ | refine blk_drew ?_ | refine blk_alloc ?_ _)); exact BK208.out) hb); have n2_ := Aside0.mk (below_step (by repeat (first | (with_reducible first | exact HB.out | apply below_alloc | apply pw_below_drewN | apply below_drew1 | refine below_set ?_ GE208.out) | exact HB.out)) hb); have n3_ := Aside0.mk (hbox); have n4_ := Aside0.mk ((by rw [hg]; exact (below_size (by repeat (first | (with_reducible first | exact HB.out | apply below_alloc | apply pw_below_drewN | apply below_drew1 | refine below_set ?_ GE208.out) | exact HB.out))) : w.heap.size ≤ gb265)); have n5_ := Aside0.mk ((by rw [hg]; exact (below_size (by repeat (first | (with_reducible first | exact HB.out | apply below_alloc | apply pw_below_drewN | apply below_drew1 | refine below_set ?_ GE208.out) | exact HB.out))) : w.heap.size ≤ gb265)); have n6_ := Aside0.mk ((by rw [hg]; exact Nat.ne_of_lt (blk_lt (g := gb208) (o := .cells #[.int .u64 a1_0, .slice A1_1 l1_1.length c1_1, .int .i64 a1_2, .string a1_3] 77 (0, 0)) (by (with_reducible repeat (first | refine blk_drewN ?_ _ | refine blk_drew ?_ | refine blk_alloc ?_ _)); exact BK208.out)) : gb208 ≠ gb265)); have n7_ := Aside0.mk ((by rw [hg]; exact Nat.ne_of_gt (blk_lt (g := gb208) (o := .cells #[.int .u64 a1_0, .slice A1_1 l1_1.length c1_1, .int .i64 a1_2, .string a1_3] 77 (0, 0)) (by (with_reducible repeat (first | refine blk_drewN ?_ _ | refine blk_drew ?_ | refine blk_alloc ?_ _)); exact BK208.out)) : gb265 ≠ gb208)); clear HO261; clear BK208; clear HB; have HO261 := n0_; have BK208 := n1_; have HB := n2_; have BK265 := n3_; have GW265 := n4_; have GE265 := n5_; have NB208_265 := n6_; have NB265_208 := n7_; clear n0_ n1_ n2_ n3_ n4_ n5_ n6_ n7_; clear hb hbox hg; have hnb111 := NB265_208.out; have hnc111 := NB208_265.out; have hcz112_0 : w110.cell? ⟨gb265, 0, none⟩ = some (.int .u64 0) := (blk_cell BK265.out 0).trans rfl; have hcz112_1 : w110.cell? ⟨gb265, 1, none⟩ = some (.slice none 0 0) := (blk_cell BK265.out 1).trans rfl; have hcz112_2 : w110.cell? ⟨gb265, 2, none⟩ = some (.int .i64 0) := (blk_cell BK265.out 2).trans rfl; have hcz112_3 : w110.cell? ⟨gb265, 3, none⟩ = some (.string (⟨#[]⟩ : ByteArray)) := (blk_cell BK265.out 3).trans rfl; have hfz112_0 := blk_frozen BK265.out 0; have hfz112_1 := blk_frozen BK265.out 1; have hfz112_2 := blk_frozen BK265.out 2; have hfz112_3 := blk_frozen BK265.out 3; obtain ⟨Ao113, co113, eo113⟩ := Kd.R_slice HO261.out; subst eo113) | ((with_reducible refine gate_callee (f := 30) rfl ?_); refine goesL_ (some 114) rfl rfl Try.func30 (by kernel_rfl) rfl #[.agg #[.int .u64 t258, .slice Ao113 t259.length co113, .int .i64 t262, .string t263]] rfl (by (try simp only [List.map_toArray, List.map_cons, List.map_nil]); first | done | rfl | (simp only [List.length_drop, List.length_take]; rfl)) ?_; (with_reducible refine (object_Commit.calls kj79 t258 _ _ t259 t262 t263 t266 t269 _ ?side1 ?side2 A107.out).mono ?_); (case side1 => refine (Kd.R_reads' (e := 65) (base := w.heap.size) (ok := fun k_ => True) (n := t259.length) (c := co113) ?_).2.2; exact (by (with_reducible repeat (first | apply Kd.R_alloc | apply Kd.R_drewN | apply Kd.R_drew)); exact (Kd.R_mono (Kd.R_far (p := ⟨gb265, 3, none⟩) (Kd.R_far (p := ⟨gb265, 2, none⟩) (Kd.R_far (p := ⟨gb265, 1, none⟩) (Kd.R_far (p := ⟨gb265, 0, none⟩) (Kd.R_types HO261.out BK265.out (by decide)) (fun _ hk => hk.2) (.int .u64 t258)) (fun _ hk => hk.2) (.slice Ao113 t259.length co113)) (fun _ hk => hk.2) (.int .i64 t262)) (fun _ hk => hk.2) (.string t263)) (fun _ h_ => h_.1)))); (case side2 => exact (Kd.R_reads' HO261.out).2.1); rintro e w114 ⟨v267, rfl, ho0, hb⟩; refine ⟨_, rfl, ?_⟩; have n0_ := Aside0.mk (Kd.R_below (by (with_reducible repeat (first | apply Kd.R_alloc | apply Kd.R_drewN | apply Kd.R_drew)); exact (Kd.R_mono (Kd.R_far (p := ⟨gb265, 3, none⟩) (Kd.R_far (p := ⟨gb265, 2, none⟩) (Kd.R_far (p := ⟨gb265, 1, none⟩) (Kd.R_far (p := ⟨gb265, 0, none⟩) (Kd.R_types HO261.out BK265.out (by decide)) (fun _ hk => hk.2) (.int .u64 t258)) (fun _ hk => hk.2) (.slice Ao113 t259.length co113)) (fun _ hk => hk.2) (.int .i64 t262)) (fun _ hk => hk.2) (.string t263)) (fun _ h_ => h_.1))) hb); have n1_ := Aside0.mk (Kd.R_lower ho0 (below_size (by repeat (first | (with_reducible first | exact HB.out | apply below_alloc | apply pw_below_drewN | apply below_drew1 | refine below_set ?_ GE208.out | refine below_set ?_ GE265.out) | exact HB.out)))); have n2_ := Aside0.mk (blk_below (g := gb208) (o := .cells #[.int .u64 a1_0, .slice A1_1 l1_1.length c1_1, .int .i64 a1_2, .string a1_3] 77 (0, 0)) (by (with_reducible repeat (first | refine blk_drewN ?_ _ | refine blk_drew ?_ | refine blk_alloc ?_ _)); refine blk_far ?_ NB208_265.out _; (with_reducible repeat (first | refine blk_drewN ?_ _ | refine blk_drew ?_ | refine blk_alloc ?_ _)); refine blk_far ?_ NB208_265.out _; (with_reducible repeat (first | refine blk_drewN ?_ _ | refine blk_drew ?_ | refine blk_alloc ?_ _)); refine blk_far ?_ NB208_265.out _; (with_reducible repeat (first | refine blk_drewN ?_ _ | refine blk_drew ?_ | refine blk_alloc ?_ _)); refine blk_far ?_ NB208_265.out _; (with_reducible repeat (first | refine blk_drewN ?_ _ | refine blk_drew ?_ | refine blk_alloc ?_ _)); exact BK208.out) hb); have n3_ := Aside0.mk (blk_below (g := gb265) (o := .cells #[.int .u64 t258, .slice Ao113 t259.length co113, .int .i64 t262, .string t263] 77 (0, 0)) (by (with_reducible repeat (first | refine blk_drewN ?_ _ | refine blk_drew ?_ | refine blk_alloc ?_ _)); refine blk_put (cs := #[.int .u64 t258, .slice Ao113 t259.length co113, .int .i64 t262, .string (⟨#[]⟩ : ByteArray)]) ?_ 3 _ rfl; (with_reducible repeat (first | refine blk_drewN ?_ _ | refine blk_drew ?_ | refine blk_alloc ?_ _)); refine blk_put (cs := #[.int .u64 t258, .slice Ao113 t259.length co113, .int .i64 0, .string (⟨#[]⟩ : ByteArray)]) ?_ 2 _ rfl; (with_reducible repeat (first | refine blk_drewN ?_ _ | refine blk_drew ?_ | refine blk_alloc ?_ _)); refine blk_put (cs := #[.int .u64 t258, .slice none 0 0, .int .i64 0, .string (⟨#[]⟩ : ByteArray)]) ?_ 1 _ rfl; (with_reducible repeat (first | refine blk_drewN ?_ _ | refine blk_drew ?_ | refine blk_alloc ?_ _)); refine blk_put (cs := #[.int .u64 0, .slice none 0 0, .int .i64 0, .string (⟨#[]⟩ : ByteArray)]) ?_ 0 _ rfl; (with_reducible repeat (first | refine blk_drewN ?_ _ | refine blk_drew ?_ | refine blk_alloc ?_ _)); exact BK265.out) hb); have n4_ := Aside0.mk (below_step (by repeat (first | (with_reducible first | exact HB.out | apply below_alloc | apply pw_below_drewN | apply below_drew1 | refine below_set ?_ GE208.out | refine below_set ?_ GE265.out) | exact HB.out)) hb); clear HO261; clear BK208; clear BK265; clear HB; have HO261 := n0_; have HO268 := n1_; have BK208 := n2_; have BK265 := n3_; have HB := n4_; clear n0_ n1_ n2_ n3_ n4_; (try clear hb); (try clear hb2); (try clear hk); (try clear hi); (try clear ho0); have hcw115 := fun n_ : Nat => own_string (P := Try.prog) Try.underlying53 Try.underlying5 Try.underlying9 (Kd.own_of_R (Kd.R_drewN HO268.out n_)); have hcv116 := own_string (P := Try.prog) Try.underlying53 Try.underlying5 Try.underlying9 (Kd.own_of_R HO268.out); have hcv117 := Kd.C_string (P := Try.prog) (A := A2) (c := c2) Try.underlying53 Try.underlying5 Try.underlying9 (Kd.C_below HR2.out HB.out); have hcw118 := fun n_ : Nat => Kd.C_string (P := Try.prog) (A := A2) (c := c2) Try.underlying53 Try.underlying5 Try.underlying9 (Kd.C_drewN ((Kd.C_below HR2.out HB.out)) n_)))
          go_ret
          exact ⟨by first | rfl | (simp [errW_none, errW_some] <;> rfl) | (simp [*, errW_none, errW_some] <;> rfl), by repeat (first | (with_reducible first | exact HB.out | apply below_alloc | apply pw_below_drewN | apply below_drew1 | refine below_set ?_ GE208.out | refine below_set ?_ GE265.out) | exact HB.out)⟩
         ·rw [if_neg c108] at H
          have c108b0 : (t269 == 0) = false := beq_eq_false_iff_ne.mpr c108
          have c108b1 : (t269 != 0) = true := bne_iff_ne.mpr c108
          exact absurd (Option.some.inj H) (by rw [HR_.out]; decide)
        ·rw [if_neg c106] at H
         have c106b0 : (t264 == 0) = false := beq_eq_false_iff_ne.mpr c106
         have c106b1 : (t264 != 0) = true := bne_iff_ne.mpr c106
         by_cases c125 : t264 = 9
         ·rw [if_pos c125] at H
          have c125b0 : (t264 == 9) = true := beq_iff_eq.mpr c125
          have c125b1 : (t264 != 9) = false := bne_eq_false_iff_eq.mpr c125
          clear c125
          replace H := Option.bind_eq_some_iff.mp H
          obtain ⟨⟨t270, t271, t274, t275⟩, A1260, H⟩ := H
          replace H : ((forebearref08_SameCommit.f kj79 t270 t271 t274 t275 0 ([] : List Int) 0 (⟨#[]⟩ : ByteArray)).bind fun t276 => (some t276)) = some r := H
          have A126 := Aside0.mk A1260
          clear A1260
          replace H := Option.bind_eq_some_iff.mp H
          obtain ⟨t276, A1270, H⟩ := H
          replace H : (some t276) = some r := H
          have A127 := Aside0.mk A1270
          clear A1270
          obtain rfl := Option.some.inj H
          go_wp2_with (first | ((with_reducible refine gate_callee (f := 33) rfl ?_); refine goesL_ (some 99) rfl rfl Try.func33 (by kernel_rfl) rfl #[.slice A2 l2.length c2] rfl (by (try simp only [List.map_toArray, List.map_cons, List.map_nil]); first | done | rfl | (simp only [List.length_drop, List.length_take]; rfl)) ?_; (with_reducible refine (object_ReadCommit.calls kj79 _ _ l2 t258 t259 t262 t263 t264 _ ?side1 ?side2 A105.out).mono ?_); (case side1 => repeat (first | exact (Kd.C_below HR2.out HB.out) | (with_reducible refine Kd.C_alloc ?_ _) | (with_reducible refine Kd.C_drewN ?_ _) | (with_reducible refine Kd.C_drew ?_))); (case side2 => exact HC2.out); rintro e w128 ⟨v260, rfl, ho0, hb⟩; refine ⟨_, rfl, ?_⟩; have n0_ := Aside0.mk (Kd.R_lower ho0 (below_size (by repeat (first | (with_reducible first | exact HB.out | apply below_alloc | apply pw_below_drewN | apply below_drew1 | refine below_set ?_ GE208.out) | exact HB.out)))); have n1_ := Aside0.mk (blk_below (g := gb208) (o := .cells #[.int .u64 a1_0, .slice A1_1 l1_1.length c1_1, .int .i64 a1_2, .string a1_3] 77 (0, 0)) (by (with_reducible repeat (first | refine blk_drewN ?_ _ | refine blk_drew ?_ | refine blk_alloc ?_ _)); exact BK208.out) hb); have n2_ := Aside0.mk (below_step (by repeat (first | (with_reducible first | exact HB.out | apply below_alloc | apply pw_below_drewN | apply below_drew1 | refine below_set ?_ GE208.out) | exact HB.out)) hb); clear BK208; clear HB; have HO261 := n0_; have BK208 := n1_; have HB := n2_; clear n0_ n1_ n2_; (try clear hb); (try clear hb2); (try clear hk); (try clear hi); (try clear ho0)) | ((with_reducible refine gate_dst (N := 19) rfl ?_); refine box_event ?hg (N := 19) ?hd (cs := #[.int .u64 0, .slice none 0 0, .int .i64 0, .string (⟨#[]⟩ : ByteArray)]) (t := 77) ?hr ?_; (case hd => rfl); (case hg => rfl); (case hr => first | (go_simp; done) | (go_simp; rfl)); intro gb265 hg w129 hbox hb; have n0_ := Aside0.mk (Kd.R_below (by (with_reducible repeat (first | apply Kd.R_alloc | apply Kd.R_drewN | apply Kd.R_drew)); exact HO261.out) hb); have n1_ := Aside0.mk (blk_below (g := gb208) (o := .cells #[.int .u64 a1_0, .slice A1_1 l1_1.length c1_1, .int .i64 a1_2, .string a1_3] 77 (0, 0)) (by (with_reducible repeat (first | refine blk_drewN ?_ _ | refine blk_drew ?_ | refine blk_alloc ?_ _)); exact BK208.out) hb); have n2_ := Aside0.mk (below_step (by repeat (first | (with_reducible first | exact HB.out | apply below_alloc | apply pw_below_drewN | apply below_drew1 | refine below_set ?_ GE208.out) | exact HB.out)) hb); have n3_ := Aside0.mk (hbox); have n4_ := Aside0.mk ((by rw [hg]; exact (below_size (by repeat (first | (with_reducible first | exact HB.out | apply below_alloc | apply pw_below_drewN | apply below_drew1 | refine below_set ?_ GE208.out) | exact HB.out))) : w.heap.size ≤ gb265)); have n5_ := Aside0.mk ((by rw [hg]; exact (below_size (by repeat (first | (with_reducible first | exact HB.out | apply below_alloc | apply pw_below_drewN | apply below_drew1 | refine below_set ?_ GE208.out) | exact HB.out))) : w.heap.size ≤ gb265)); have n6_ := Aside0.mk ((by rw [hg]; exact Nat.ne_of_lt (blk_lt (g := gb208) (o := .cells #[.int .u64 a1_0, .slice A1_1 l1_1.length c1_1, .int .i64 a1_2, .string a1_3] 77 (0, 0)) (by (with_reducible repeat (first | refine blk_drewN ?_ _ | refine blk_drew ?_ | refine blk_alloc ?_ _)); exact BK208.out)) : gb208 ≠ gb265)); have n7_ := Aside0.mk ((by rw [hg]; exact Nat.ne_of_gt (blk_lt (g := gb208) (o := .cells #[.int .u64 a1_0, .slice A1_1 l1_1.length c1_1, .int .i64 a1_2, .string a1_3] 77 (0, 0)) (by (with_reducible repeat (first | refine blk_drewN ?_ _ | refine blk_drew ?_ | refine blk_alloc ?_ _)); exact BK208.out)) : gb265 ≠ gb208)); clear HO261; clear BK208; clear HB; have HO261 := n0_; have BK208 := n1_; have HB := n2_; have BK265 := n3_; have GW265 := n4_; have GE265 := n5_; have NB208_265 := n6_; have NB265_208 := n7_; clear n0_ n1_ n2_ n3_ n4_ n5_ n6_ n7_; clear hb hbox hg; have hnb130 := NB265_208.out; have hnc130 := NB208_265.out; have hcz131_0 : w129.cell? ⟨gb265, 0, none⟩ = some (.int .u64 0) := (blk_cell BK265.out 0).trans rfl; have hcz131_1 : w129.cell? ⟨gb265, 1, none⟩ = some (.slice none 0 0) := (blk_cell BK265.out 1).trans rfl; have hcz131_2 : w129.cell? ⟨gb265, 2, none⟩ = some (.int .i64 0) := (blk_cell BK265.out 2).trans rfl; have hcz131_3 : w129.cell? ⟨gb265, 3, none⟩ = some (.string (⟨#[]⟩ : ByteArray)) := (blk_cell BK265.out 3).trans rfl; have hfz131_0 := blk_frozen BK265.out 0; have hfz131_1 := blk_frozen BK265.out 1; have hfz131_2 := blk_frozen BK265.out 2; have hfz131_3 := blk_frozen BK265.out 3; obtain ⟨Ao132, co132, eo132⟩ := Kd.R_slice HO261.out; subst eo132) | (go_at_call 32; (with_reducible refine (forebearlaw08_Commit.calls kj79 t258 _ _ t259 t262 t263 t270 t271 t274 t275 _ ?side1 ?side2 A126.out).mono ?_); (case side1 => refine (Kd.R_reads' (e := 65) (base := w.heap.size) (ok := fun k_ => True) (n := t259.length) (c := co132) ?_).2.2; exact (by (with_reducible repeat (first | apply Kd.R_alloc | apply Kd.R_drewN | apply Kd.R_drew)); exact (Kd.R_mono (Kd.R_far (p := ⟨gb265, 3, none⟩) (Kd.R_far (p := ⟨gb265, 2, none⟩) (Kd.R_far (p := ⟨gb265, 1, none⟩) (Kd.R_far (p := ⟨gb265, 0, none⟩) (Kd.R_types HO261.out BK265.out (by decide)) (fun _ hk => hk.2) (.int .u64 t258)) (fun _ hk => hk.2) (.slice Ao132 t259.length co132)) (fun _ hk => hk.2) (.int .i64 t262)) (fun _ hk => hk.2) (.string t263)) (fun _ h_ => h_.1)))); (case side2 => exact (Kd.R_reads' HO261.out).2.1); rintro e w133 ⟨v272, rfl, ho0, hb⟩; have n0_ := Aside0.mk (Kd.R_below (by (with_reducible repeat (first | apply Kd.R_alloc | apply Kd.R_drewN | apply Kd.R_drew)); exact (Kd.R_mono (Kd.R_far (p := ⟨gb265, 3, none⟩) (Kd.R_far (p := ⟨gb265, 2, none⟩) (Kd.R_far (p := ⟨gb265, 1, none⟩) (Kd.R_far (p := ⟨gb265, 0, none⟩) (Kd.R_types HO261.out BK265.out (by decide)) (fun _ hk => hk.2) (.int .u64 t258)) (fun _ hk => hk.2) (.slice Ao132 t259.length co132)) (fun _ hk => hk.2) (.int .i64 t262)) (fun _ hk => hk.2) (.string t263)) (fun _ h_ => h_.1))) hb); have n1_ := Aside0.mk (Kd.R_lower ho0 (below_size (by repeat (first | (with_reducible first | exact HB.out | apply below_alloc | apply pw_below_drewN | apply below_drew1 | refine below_set ?_ GE208.out | refine below_set ?_ GE265.out) | exact HB.out)))); have n2_ := Aside0.mk (blk_below (g := gb208) (o := .cells #[.int .u64 a1_0, .slice A1_1 l1_1.length c1_1, .int .i64 a1_2, .string a1_3] 77 (0, 0)) (by (with_reducible repeat (first | refine blk_drewN ?_ _ | refine blk_drew ?_ | refine blk_alloc ?_ _)); refine blk_far ?_ NB208_265.out _; (with_reducible repeat (first | refine blk_drewN ?_ _ | refine blk_drew ?_ | refine blk_alloc ?_ _)); refine blk_far ?_ NB208_265.out _; (with_reducible repeat (first | refine blk_drewN ?_ _ | refine blk_drew ?_ | refine blk_alloc ?_ _)); refine blk_far ?_ NB208_265.out _; (with_reducible repeat (first | refine blk_drewN ?_ _ | refine blk_drew ?_ | refine blk_alloc ?_ _)); refine blk_far ?_ NB208_265.out _; (with_reducible repeat (first | refine blk_drewN ?_ _ | refine blk_drew ?_ | refine blk_alloc ?_ _)); exact BK208.out) hb); have n3_ := Aside0.mk (blk_below (g := gb265) (o := .cells #[.int .u64 t258, .slice Ao132 t259.length co132, .int .i64 t262, .string t263] 77 (0, 0)) (by (with_reducible repeat (first | refine blk_drewN ?_ _ | refine blk_drew ?_ | refine blk_alloc ?_ _)); refine blk_put (cs := #[.int .u64 t258, .slice Ao132 t259.length co132, .int .i64 t262, .string (⟨#[]⟩ : ByteArray)]) ?_ 3 _ rfl; (with_reducible repeat (first | refine blk_drewN ?_ _ | refine blk_drew ?_ | refine blk_alloc ?_ _)); refine blk_put (cs := #[.int .u64 t258, .slice Ao132 t259.length co132, .int .i64 0, .string (⟨#[]⟩ : ByteArray)]) ?_ 2 _ rfl; (with_reducible repeat (first | refine blk_drewN ?_ _ | refine blk_drew ?_ | refine blk_alloc ?_ _)); refine blk_put (cs := #[.int .u64 t258, .slice none 0 0, .int .i64 0, .string (⟨#[]⟩ : ByteArray)]) ?_ 1 _ rfl; (with_reducible repeat (first | refine blk_drewN ?_ _ | refine blk_drew ?_ | refine blk_alloc ?_ _)); refine blk_put (cs := #[.int .u64 0, .slice none 0 0, .int .i64 0, .string (⟨#[]⟩ : ByteArray)]) ?_ 0 _ rfl; (with_reducible repeat (first | refine blk_drewN ?_ _ | refine blk_drew ?_ | refine blk_alloc ?_ _)); exact BK265.out) hb); have n4_ := Aside0.mk (below_step (by repeat (first | (with_reducible first | exact HB.out | apply below_alloc | apply pw_below_drewN | apply below_drew1 | refine below_set ?_ GE208.out | refine below_set ?_ GE265.out) | exact HB.out)) hb); clear HO261; clear BK208; clear BK265; clear HB; have HO261 := n0_; have HO273 := n1_; have BK208 := n2_; have BK265 := n3_; have HB := n4_; clear n0_ n1_ n2_ n3_ n4_; (try clear hb); (try clear hb2); (try clear hk); (try clear hi); (try clear ho0); obtain ⟨Ao134, co134, eo134⟩ := Kd.R_slice HO273.out; subst eo134) | (go_at_call 35; (refine (forebearref08_SameCommit.calls kj79 t270 _ _ t271 t274 t275 0 _ _ ([] : List Int) 0 (⟨#[]⟩ : ByteArray) t276 _ ?side1 ?side2 ?side3 ?side4 A127.out).mono ?_); (case side1 => repeat (first | exact (Kd.R_reads' HO273.out).2.2 | (with_reducible refine Kd.C_alloc ?_ _) | (with_reducible refine Kd.C_drewN ?_ _) | (with_reducible refine Kd.C_drew ?_))); (case side2 => exact (Kd.R_reads' HO273.out).2.1); (case side3 => exact Kd.C_nil _ _); (case side4 => exact Nat.le_refl _); rintro e w135 ⟨rfl, hb⟩; have n0_ := Aside0.mk (Kd.R_below (by (with_reducible repeat (first | apply Kd.R_alloc | apply Kd.R_drewN | apply Kd.R_drew)); exact HO261.out) hb); have n1_ := Aside0.mk (Kd.R_below (by (with_reducible repeat (first | apply Kd.R_alloc | apply Kd.R_drewN | apply Kd.R_drew)); exact HO273.out) hb); have n2_ := Aside0.mk (blk_below (g := gb208) (o := .cells #[.int .u64 a1_0, .slice A1_1 l1_1.length c1_1, .int .i64 a1_2, .string a1_3] 77 (0, 0)) (by (with_reducible repeat (first | refine blk_drewN ?_ _ | refine blk_drew ?_ | refine blk_alloc ?_ _)); exact BK208.out) hb); have n3_ := Aside0.mk (blk_below (g := gb265) (o := .cells #[.int .u64 t258, .slice Ao132 t259.length co132, .int .i64 t262, .string t263] 77 (0, 0)) (by (with_reducible repeat (first | refine blk_drewN ?_ _ | refine blk_drew ?_ | refine blk_alloc ?_ _)); exact BK265.out) hb); have n4_ := Aside0.mk (below_step (by repeat (first | (with_reducible first | exact HB.out | apply below_alloc | apply pw_below_drewN | apply below_drew1 | refine below_set ?_ GE208.out | refine below_set ?_ GE265.out) | exact HB.out)) hb); clear HO261; clear HO273; clear BK208; clear BK265; clear HB; have HO261 := n0_; have HO273 := n1_; have BK208 := n2_; have BK265 := n3_; have HB := n4_; clear n0_ n1_ n2_ n3_ n4_; (try clear hb); (try clear hb2); (try clear hk); (try clear hi)))
          go_ret
          exact ⟨by first | rfl | (simp [errW_none, errW_some] <;> rfl) | (simp [*, errW_none, errW_some] <;> rfl), by repeat (first | (with_reducible first | exact HB.out | apply below_alloc | apply pw_below_drewN | apply below_drew1 | refine below_set ?_ GE208.out | refine below_set ?_ GE265.out) | exact HB.out)⟩
         ·rw [if_neg c125] at H
          have c125b0 : (t264 == 9) = false := beq_eq_false_iff_ne.mpr c125
          have c125b1 : (t264 != 9) = true := bne_iff_ne.mpr c125
          exact absurd (Option.some.inj H) (by rw [HR_.out]; decide)
 ·replace c5 := Bool.eq_false_iff.mpr c5
  subst c5
  have H1 : (some false) = some r := by rw [if_neg (show ¬ (false = true) by decide)] at H; exact H
  clear H
  have H := H1
  clear H1
  exact absurd (Option.some.inj H) (by rw [HR_.out]; decide)
def gS67 (x : S67) : Prop := (x.f0.size ≤ 140737488351232) ∧ (Lit.int .u64 x.f1).wf = true
theorem oS67 : Opn Try.prog 67 k67 gS67 := opn_struct (fun x : S67 => (x.f0, x.f1)) (fun p => ⟨p.1, p.2⟩) (fun _ => rfl) Try.underlying67 (by kernel_rfl) (opnF_cons rfl (by kernel_rfl) (opn_string Try.underlying9) (opnF_one rfl (by kernel_rfl) (opn_int Try.underlying65)))
def gS77 (x : S77) : Prop := ((Lit.int .u64 x.f0).wf = true) ∧ ((x.f1.length * 8 ≤ 140737488351232 ∧ x.f1.length ≤ 9223372036854775807 ∧ ∀ y_xf1 ∈ x.f1, (Lit.int .u64 y_xf1).wf = true)) ∧ ((Lit.int .i64 x.f2).wf = true) ∧ x.f3.size ≤ 140737488351232
theorem oS77 : Opn Try.prog 77 k77 gS77 := opn_struct (fun x : S77 => (x.f0, x.f1, x.f2, x.f3)) (fun p => ⟨p.1, p.2.1, p.2.2.1, p.2.2.2⟩) (fun _ => rfl) Try.underlying77 (by kernel_rfl) (opnF_cons rfl (by kernel_rfl) (opn_int Try.underlying65) (opnF_cons rfl (by kernel_rfl) (opn_slice (B := 8) Try.underlying75 (by kernel_rfl) (by kernel_rfl) (opn_int Try.underlying65)) (opnF_cons rfl (by kernel_rfl) (opn_int Try.underlying2) (opnF_one rfl (by kernel_rfl) (opn_string Try.underlying9)))))
/-- THE ONE PURE STATEMENT of forebearlaw08_ObjectBack. -/
def forebearlaw08_ObjectBack.Pure : Prop := ∀ (l0 : List (S67)) (x1 : S77) (l2 : List Int), (l0.length * 24 ≤ 140737488351232 ∧ l0.length ≤ 9223372036854775807 ∧ ∀ y_l0 ∈ l0, gS67 y_l0) → gS77 x1 → (l2.length * 1 ≤ 140737488351232 ∧ l2.length ≤ 9223372036854775807 ∧ ∀ y_l2 ∈ l2, (Lit.int .u8 y_l2).wf = true) → ∃ k, forebearlaw08_ObjectBack.f k l0 x1.f0 x1.f1 x1.f2 x1.f3 l2 = some true
theorem forebearlaw08_ObjectBack.walk (P : forebearlaw08_ObjectBack.Pure) (l0 : List (S67)) (x1 : S77) (l2 : List Int) (A0 : Option Addr) (c0 : Nat) (A1_1 : Option Addr) (c1_1 : Nat) (A2 : Option Addr) (c2 : Nat) (w : World) (g0 : (l0.length * 24 ≤ 140737488351232 ∧ l0.length ≤ 9223372036854775807 ∧ ∀ y_l0 ∈ l0, gS67 y_l0)) (g1 : gS77 x1) (g2 : (l2.length * 1 ≤ 140737488351232 ∧ l2.length ≤ 9223372036854775807 ∧ ∀ y_l2 ∈ l2, (Lit.int .u8 y_l2).wf = true)) (hc0 : l0.length ≤ c0) (hr0 : Kd.C k67 w A0 l0.length l0) (hc1_1 : x1.f1.length ≤ c1_1) (hr1_1 : Kd.C (Kd.int .u64) w A1_1 x1.f1.length x1.f1) (hc2 : l2.length ≤ c2) (hr2 : Kd.C (Kd.int .u8) w A2 l2.length l2) :
  Calls Try.prog 11 #[.slice A0 l0.length c0, .agg #[.int .u64 x1.f0, .slice A1_1 x1.f1.length c1_1, .int .i64 x1.f2, .string x1.f3], .slice A2 l2.length c2] w fun e w' => e = .returned (.bool true) ∧ Below w.heap.size w w' := by
 obtain ⟨k, h⟩ := P l0 x1 l2 g0 g1 g2
 refine (forebearlaw08_ObjectBack.calls k _ _ l0 x1.f0 _ _ x1.f1 x1.f2 x1.f3 _ _ l2 true w hr0 hc0 hr1_1 hc1_1 hr2 hc2 h).mono ?_
 rintro e w' ⟨rfl, hd⟩
 exact ⟨rfl, hd⟩

end Go.Proofs.Ythigjlahanejjaa.MO
