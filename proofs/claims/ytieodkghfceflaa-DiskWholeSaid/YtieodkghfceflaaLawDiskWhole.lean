/- The row of the law DiskWhole: its walk (by hand) put under the statement. No condition. -/
import Derived.Test.YtieodkghfceflaaRows
import Derived.Test.YtieodkghfceflaaGF
import Derived.Test.YtieodkghfceflaaOpen
import Derived.WalkKit
import Derived.ProofKit
import Derived.OpenShut
import Derived.ShutString
import Derived.ChangeOld
import Derived.Below
import Derived.SizedLaws
namespace Go.Proofs.Ytieodkghfceflaa.diskWhole
open Go.ChangeShapes Go.WideShapes Go.ChangeAt Go.RowKit Go.Proofs.Ytieodkghfceflaa.Opening Go.Proofs.Ytieodkghfceflaa.MD
open Go.ChangeMaps (open_string shut_string)
set_option linter.unusedVariables false
theorem own : ownKnob Try.prog.godebug = none := by kernel_rfl
theorem laidOut : laidOutB Try.prog = true := by kernel_rfl
set_option maxRecDepth 100000 in
theorem lifted (os : Os) (started : os.Started) (H : Type) (enc : TypeId × Value → H) :
    ReturnsInHanded {} Try.checked os 6 .any (Rows.diskWholeSpec.pre6 enc Try.prog Try.f6 Rows.diskWholeRow.domain false) (Rows.diskWholeSpec.post enc Try.prog Try.f6 false true false false) := by
  refine returnsInHanded_of_change_sized (C := Try.checked) own started (by kernel_rfl) Try.func6
    (ChangeSpec.witness6 (enc := enc) (C := Try.checked) false ⟨#[], #[.slice none 0 0, .string ByteArray.empty, .string ByteArray.empty, .int .i64 0, .int .i64 0], []⟩ 8 (by kernel_rfl) (by kernel_rfl) (by kernel_rfl) (by kernel_rfl)) ?_
  intro W base args ds gs before hval0 hW hcnd hsz0 _
  have hsz : (DataW.weightsEach Try.prog (Try.f6.params.toList ++ Rows.diskWholeSpec.plain.varTypes Try.prog) (ds ++ gs)).all (· ≤ reachBytes) = true := hsz0
  have hval : ∀ (j : Nat) t v, Try.f6.params[j]? = some t → args[j]? = some v → Value.okWide Try.prog W .any base t v := hval0
  have hW' := hW
  obtain ⟨p, q, hA0, hV, rfl, hfz, hnd⟩ := hW
  have hA : DataW.TrodAll enc Try.prog W 0 (fun _ => true) true Try.f6.params.toList args.toList ds p := hA0
  rw [Try.params6] at hA hval hsz
  obtain ⟨v0, vs0, d0, ds0, p0, q0, hargs, rfl, rfl, h0, r0⟩ := trodAll_cons hA
  obtain ⟨v1, vs1, d1, ds1, p1, q1, rfl, rfl, rfl, h1, r1⟩ := trodAll_cons r0
  obtain ⟨v2, vs2, d2, ds2, p2, q2, rfl, rfl, rfl, h2, r2⟩ := trodAll_cons r1
  obtain ⟨v3, vs3, d3, ds3, p3, q3, rfl, rfl, rfl, h3, r3⟩ := trodAll_cons r2
  obtain ⟨v4, vs4, d4, ds4, p4, q4, rfl, rfl, rfl, h4, r4⟩ := trodAll_cons r3
  obtain ⟨rfl, rfl, rfl⟩ := trodAll_nil r4
  obtain rfl : args = #[v0, v1, v2, v3, v4] := by cases args; simp_all
  obtain ⟨rfl, rfl⟩ := trodVars_none hV
  obtain ⟨z0, len0, cap0, rfl⟩ := okWide_slice Try.underlying36 (hval 0 36 v0 rfl rfl)
  have k0 := h0
  have lt0 : ∀ x ∈ p0, x.block < W.heap.size := by obtain ⟨m, hm⟩ := k0; exact DataW.trod_lt m _ _ _ hm
  obtain ⟨fuel0, hf0⟩ := h0
  obtain ⟨x0, hk0, g0⟩ := (opn_slice (B := 88) Try.underlying36 (by kernel_rfl) (by kernel_rfl) oS43) hf0 (weights_at _ _ 0 36 _ hsz rfl rfl)
  obtain ⟨A0, c0, he0, hc0, hr0⟩ := hk0
  have hq0 : Value.slice z0 len0 cap0 = .slice A0 x0.length c0 := by simpa [Value.cells] using he0
  injection hq0 with e1_0 e2_0 e3_0
  subst e1_0 e2_0 e3_0
  obtain ⟨a1, rfl, rfl, rfl, ws1⟩ := open_string Try.underlying9 (hval 1 9 v1 rfl rfl) h1
  have bw1 : a1.size ≤ 140737488351232 := by
    have hw := weights_at _ _ 1 9 _ hsz rfl rfl
    simp only [DataW.weights, List.all_cons, List.all_nil, Bool.and_true, reachBytes, Array.length_toList] at hw
    exact of_decide_eq_true hw
  obtain ⟨a2, rfl, rfl, rfl, ws2⟩ := open_string Try.underlying9 (hval 2 9 v2 rfl rfl) h2
  have bw2 : a2.size ≤ 140737488351232 := by
    have hw := weights_at _ _ 2 9 _ hsz rfl rfl
    simp only [DataW.weights, List.all_cons, List.all_nil, Bool.and_true, reachBytes, Array.length_toList] at hw
    exact of_decide_eq_true hw
  obtain ⟨a3, rfl, rfl, rfl, g3⟩ := open_int Try.underlying3 (hval 3 3 v3 rfl rfl) h3
  obtain ⟨a4, rfl, rfl, rfl, g4⟩ := open_int Try.underlying3 (hval 4 3 v4 rfl rfl) h4
  clear hA0 hval0 hsz0 hsz
  refine (whole_walk2 W _ _ x0 a1 a2 a3 a4 g0 hr0 hc0 bw1 bw2 g3 g4).mono fun e W' ⟨he, bel⟩ => ?_
  subst he
  exact ⟨_, rfl, _, _, _, [], _, [], hW', trodAll_mk1 (shut_bool Try.underlying4 _), (trodAll_cons_mk (Below.trod laidOut (by kernel_rfl) (of_decide_eq_true (by kernel_rfl)) k0 bel lt0) (trodAll_cons_mk (shut_string Try.underlying9 ws1) (trodAll_cons_mk (shut_string Try.underlying9 ws2) (trodAll_cons_mk (shut_int Try.underlying3 g3) (trodAll_cons_mk (shut_int Try.underlying3 g4) trodAll_mk0))))), rfl, bel.frame _, fun h => by cases h⟩
theorem over : Rows.diskWholeRow.holds Try.pinned (OpenSpec.ofChange Rows.diskWholeSpec) :=
  OpenClaim.holds_of_wide 6 Try.f6 rfl rfl rfl rfl rfl rfl rfl ⟨rfl, rfl, rfl, rfl, rfl⟩ rfl rfl rfl rfl rfl (by kernel_rfl) Try.func6 (by kernel_rfl)
    (of_decide_eq_true (by kernel_rfl)) (by unfold Func.isWrapper; first | (rw [if_pos (by decide +kernel)]; kernel_rfl) | (rw [if_neg (by decide +kernel)]; exact ⟨rfl, rfl⟩))
    (fun os started H enc _ => lifted os started H enc)
theorem proved : Rows.DiskWholeSaid := over
end Go.Proofs.Ytieodkghfceflaa.diskWhole
namespace Go.Proofs.Ytieodkghfceflaa
/-- For every input the law DiskWhole returns true, and its arguments read as before. No condition. -/
theorem diskWhole_holds : Rows.DiskWholeSaid := diskWhole.proved
end Go.Proofs.Ytieodkghfceflaa
