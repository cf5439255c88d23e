/- Laid by this claim's own program (myprint) out of the translation: functions that the laws of the group O reach, each as a plain function, with the proof that the Go code comes to it. No condition. -/
import Derived.Test.YthigjlahanejjaaRows
import Derived.Test.YthigjlahanejjaaMOx10
import Derived.Test.YthigjlahanejjaaOpen
import Derived.Test.YthigjlahanejjaaPureObjectCommits
import Derived.WalkKit
import Derived.ProofKit
import Derived.OpenShut
import Derived.ShutString
import Derived.ChangeOld
import Derived.Below
import Derived.SizedLaws
namespace Go.Proofs.Ythigjlahanejjaa.objectCommits
open Go.ChangeShapes Go.WideShapes Go.ChangeAt Go.RowKit Go.Proofs.Ythigjlahanejjaa.Opening Go.Proofs.Ythigjlahanejjaa.MO
open Go.ChangeMaps (open_string shut_string)
set_option linter.unusedVariables false
theorem own : ownKnob Try.prog.godebug = none := by kernel_rfl
theorem laidOut : laidOutB Try.prog = true := by kernel_rfl
set_option maxRecDepth 100000 in
theorem lifted (os : Os) (started : os.Started) (H : Type) (enc : TypeId × Value → H) :
    ReturnsInHanded {} Try.checked os 10 .any (Rows.objectCommitsSpec.pre6 enc Try.prog Try.f10 Rows.objectCommitsRow.domain false) (Rows.objectCommitsSpec.post enc Try.prog Try.f10 false true false false) := by
  refine returnsInHanded_of_change_sized (C := Try.checked) own started (by kernel_rfl) Try.func10
    (ChangeSpec.witness6 (enc := enc) (C := Try.checked) false ⟨#[], #[.agg #[.int .u64 0, .slice none 0 0, .int .i64 0, .string ByteArray.empty], .slice none 0 0], []⟩ 8 (by kernel_rfl) (by kernel_rfl) (by kernel_rfl) (by kernel_rfl)) ?_
  intro W base args ds gs before hval0 hW hcnd hsz0 _
  have hsz : (DataW.weightsEach Try.prog (Try.f10.params.toList ++ Rows.objectCommitsSpec.plain.varTypes Try.prog) (ds ++ gs)).all (· ≤ reachBytes) = true := hsz0
  have hval : ∀ (j : Nat) t v, Try.f10.params[j]? = some t → args[j]? = some v → Value.okWide Try.prog W .any base t v := hval0
  have hW' := hW
  obtain ⟨p, q, hA0, hV, rfl, hfz, hnd⟩ := hW
  have hA : DataW.TrodAll enc Try.prog W 0 (fun _ => true) true Try.f10.params.toList args.toList ds p := hA0
  rw [Try.params10] at hA hval hsz
  obtain ⟨v0, vs0, d0, ds0, p0, q0, hargs, rfl, rfl, h0, r0⟩ := trodAll_cons hA
  obtain ⟨v1, vs1, d1, ds1, p1, q1, rfl, rfl, rfl, h1, r1⟩ := trodAll_cons r0
  obtain ⟨rfl, rfl, rfl⟩ := trodAll_nil r1
  obtain rfl : args = #[v0, v1] := by cases args; simp_all
  obtain ⟨rfl, rfl⟩ := trodVars_none hV
  obtain ⟨z0, rfl, _⟩ := okWide_struct Try.underlying77 (hval 0 77 v0 rfl rfl)
  have k0 := h0
  have lt0 : ∀ x ∈ p0, x.block < W.heap.size := by obtain ⟨m, hm⟩ := k0; exact DataW.trod_lt m _ _ _ hm
  obtain ⟨fuel0, hf0⟩ := h0
  obtain ⟨x0, hk0, g0⟩ := oS77 hf0 (weights_at _ _ 0 77 _ hsz rfl rfl)
  have hk0 := k77_open hk0
  obtain ⟨A0_1, c0_1, he0, hc0_1, hr0_1⟩ := hk0
  have hq0 : z0 = #[.int .u64 x0.f0, .slice A0_1 x0.f1.length c0_1, .int .i64 x0.f2, .string x0.f3] := by cases z0; simpa [Value.cells] using he0
  subst hq0
  obtain ⟨z1, len1, cap1, rfl⟩ := okWide_slice Try.underlying53 (hval 1 53 v1 rfl rfl)
  have k1 := h1
  have lt1 : ∀ x ∈ p1, x.block < W.heap.size := by obtain ⟨m, hm⟩ := k1; exact DataW.trod_lt m _ _ _ hm
  obtain ⟨fuel1, hf1⟩ := h1
  obtain ⟨x1, hk1, g1⟩ := (opn_slice (B := 1) Try.underlying53 (by kernel_rfl) (by kernel_rfl) (opn_int Try.underlying5)) hf1 (weights_at _ _ 1 53 _ hsz rfl rfl)
  obtain ⟨A1, c1, he1, hc1, hr1⟩ := hk1
  have hq1 : Value.slice z1 len1 cap1 = .slice A1 x1.length c1 := by simpa [Value.cells] using he1
  injection hq1 with e1_1 e2_1 e3_1
  subst e1_1 e2_1 e3_1
  clear hA0 hval0 hsz0 hsz
  refine (forebearlaw08_ObjectCommits.walk Pure.ObjectCommits x0 x1 _ _ _ _ W g0 g1 hc0_1 hr0_1 hc1 hr1).mono fun e W' ⟨he, bel⟩ => ?_
  subst he
  exact ⟨_, rfl, _, _, _, [], _, [], hW', trodAll_mk1 (shut_bool Try.underlying4 _), (trodAll_cons_mk (Below.trod laidOut (by kernel_rfl) (of_decide_eq_true (by kernel_rfl)) k0 bel lt0) (trodAll_cons_mk (Below.trod laidOut (by kernel_rfl) (of_decide_eq_true (by kernel_rfl)) k1 bel lt1) trodAll_mk0)), rfl, bel.frame _, fun h => by cases h⟩
theorem over : Rows.objectCommitsRow.holds Try.pinned (OpenSpec.ofChange Rows.objectCommitsSpec) :=
  OpenClaim.holds_of_wide 10 Try.f10 rfl rfl rfl rfl rfl rfl rfl ⟨rfl, rfl, rfl, rfl, rfl⟩ rfl rfl rfl rfl rfl (by kernel_rfl) Try.func10 (by kernel_rfl)
    (of_decide_eq_true (by kernel_rfl)) (by unfold Func.isWrapper; first | (rw [if_pos (by decide +kernel)]; kernel_rfl) | (rw [if_neg (by decide +kernel)]; exact ⟨rfl, rfl⟩))
    (fun os started H enc _ => lifted os started H enc)
theorem proved : Rows.ObjectCommitsSaid := over
end Go.Proofs.Ythigjlahanejjaa.objectCommits
namespace Go.Proofs.Ythigjlahanejjaa
/-- For every input the law ObjectCommits returns true, and its arguments read as before. No condition. -/
theorem objectCommits_holds : Rows.ObjectCommitsSaid := objectCommits.proved
end Go.Proofs.Ythigjlahanejjaa
