/- Laid by this claim's own program (myprint) out of the translation: functions that the laws of the group A reach, each as a plain function, with the proof that the Go code comes to it. No condition. -/
import Derived.Test.YtgmlhcjcaebfgaaRows
import Derived.Test.YtgmlhcjcaebfgaaMAx19
import Derived.Test.YtgmlhcjcaebfgaaOpen
import Derived.Test.YtgmlhcjcaebfgaaPureFrameTorn
import Derived.WalkKit
import Derived.ProofKit
import Derived.OpenShut
import Derived.ShutString
import Derived.ChangeOld
import Derived.Below
import Derived.SizedLaws
import Derived.JoinedCond
import Derived.Deep.CondSized
import Derived.Test.YtgmlhcjcaebfgaaUpto
namespace Go.Proofs.Ytgmlhcjcaebfgaa.frameTorn
open Go.ChangeShapes Go.WideShapes Go.ChangeAt Go.RowKit Go.Proofs.Ytgmlhcjcaebfgaa.Opening Go.Proofs.Ytgmlhcjcaebfgaa.MA
open Go.ChangeMaps (open_string shut_string)
set_option linter.unusedVariables false
theorem own : ownKnob Try.prog.godebug = none := by kernel_rfl
theorem laidOut : laidOutB Try.prog = true := by kernel_rfl
theorem oU47 : OpnU Try.prog 47 k47 gS47 bS47 := opnu_struct (fun x : S47 => (x.f0, x.f1)) (fun p => ⟨p.1, p.2⟩) (fun _ => rfl) Try.underlying47 (by kernel_rfl) (opnFu_cons rfl (by kernel_rfl) (opnu_int Try.underlying3) (opnFu_one rfl (by kernel_rfl) (opnu_slice (B := 1) Try.underlying45 (by kernel_rfl) (by kernel_rfl) (opnu_int Try.underlying5))))
set_option maxRecDepth 100000 in
theorem lifted (os : Os) (started : os.Started) (H : Type) (enc : TypeId × Value → H) (F : Stop.Interp) :
    ReturnsInHanded {} Try.checked os 13 .any ((Rows.OpenSpec.upto Rows.frameTornSpec).pre6 enc Try.prog Try.f13 Rows.frameTornUptoRow.domain false) (((Rows.OpenSpec.upto Rows.frameTornSpec).at F).post enc Try.prog Try.f13 false true false false) := by
  refine returnsInHanded_of_cond_sized (C := Try.checked) (s := (Rows.OpenSpec.upto Rows.frameTornSpec)) (k := Rows.uptoSmall) rfl own started (by kernel_rfl) Try.func13
    (OpenSpec.witness (enc := enc) (C := Try.checked) (s := (Rows.OpenSpec.upto Rows.frameTornSpec)) (k := Rows.uptoSmall) rfl false ⟨#[], #[.slice none 0 0, .int .i64 0], []⟩ 8 (by kernel_rfl) (by kernel_rfl) (by kernel_rfl)
      (x := ([.nil, .lit (.int .i64 0)], [], [])) (by kernel_rfl) rfl (by kernel_rfl)) ?_
  intro W base args ds gs before hval0 hW hcnd hk0 hsz0 _
  have hsz : (DataW.weightsEach Try.prog (Try.f13.params.toList ++ Rows.frameTornSpec.plain.varTypes Try.prog) (ds ++ gs)).all (· ≤ reachBytes) = true := hsz0
  have hval : ∀ (j : Nat) t v, Try.f13.params[j]? = some t → args[j]? = some v → Value.okWide Try.prog W .any base t v := hval0
  have hW' := hW
  obtain ⟨p, q, hA0, hV, rfl, hfz, hnd⟩ := hW
  have hA : DataW.TrodAll enc Try.prog W 0 (fun _ => true) true Try.f13.params.toList args.toList ds p := hA0
  rw [Try.params13] at hA hval hsz
  obtain ⟨v0, vs0, d0, ds0, p0, q0, hargs, rfl, rfl, h0, r0⟩ := trodAll_cons hA
  obtain ⟨v1, vs1, d1, ds1, p1, q1, rfl, rfl, rfl, h1, r1⟩ := trodAll_cons r0
  obtain ⟨rfl, rfl, rfl⟩ := trodAll_nil r1
  obtain rfl : args = #[v0, v1] := by cases args; simp_all
  have hbk0 : Rows.uptoBulkAll ((d0 :: d1 :: []) ++ gs) ≤ 1048576 := of_decide_eq_true hk0
  obtain ⟨rfl, rfl⟩ := trodVars_none hV
  obtain ⟨z0, len0, cap0, rfl⟩ := okWide_slice Try.underlying72 (hval 0 72 v0 rfl rfl)
  have k0 := h0
  have lt0 : ∀ x ∈ p0, x.block < W.heap.size := by obtain ⟨m, hm⟩ := k0; exact DataW.trod_lt m _ _ _ hm
  obtain ⟨fuel0, hf0⟩ := h0
  obtain ⟨x0, hk0, g0, b0⟩ := (opnu_slice (B := 32) Try.underlying72 (by kernel_rfl) (by kernel_rfl) oU47) hf0 (weights_at _ _ 0 72 _ hsz rfl rfl)
  replace b0 : ((x0.map fun z_x0 => (bS47 z_x0)).sum + 1) ≤ Rows.uptoBulk d0 := b0
  obtain ⟨A0, c0, he0, hc0, hr0⟩ := hk0
  have hq0 : Value.slice z0 len0 cap0 = .slice A0 x0.length c0 := by simpa [Value.cells] using he0
  injection hq0 with e1_0 e2_0 e3_0
  subst e1_0 e2_0 e3_0
  have b1 := bulk_one d1
  obtain ⟨a1, rfl, rfl, rfl, g1⟩ := open_int Try.underlying3 (hval 1 3 v1 rfl rfl) h1
  simp only [List.append_nil, Rows.uptoBulkAll] at hbk0
  have gu : ((x0.map fun z_x0 => (bS47 z_x0)).sum + 1) + 1 ≤ 1048576 := by omega
  clear hA0 hval0 hsz0 hsz
  refine (forebearlaw07_FrameTorn.walk Pure.FrameTorn x0 a1 _ _ W g0 g1 gu hc0 hr0).mono fun e W' ⟨he, bel⟩ => ?_
  subst he
  exact ⟨_, rfl, _, _, _, [], _, [], hW', trodAll_mk1 (shut_bool Try.underlying4 _), (trodAll_cons_mk (Below.trod laidOut (by kernel_rfl) (of_decide_eq_true (by kernel_rfl)) k0 bel lt0) (trodAll_cons_mk (shut_int Try.underlying3 g1) trodAll_mk0)), rfl, bel.frame _, fun h => by cases h⟩
theorem over : Rows.frameTornUptoRow.holds Try.pinned (Rows.OpenSpec.upto Rows.frameTornSpec) :=
  OpenClaim.holds_of_cond 13 Try.f13 rfl rfl rfl rfl rfl rfl rfl ⟨rfl, rfl, rfl, rfl, rfl⟩ rfl rfl rfl rfl rfl (by kernel_rfl) Try.func13 (by kernel_rfl)
    (of_decide_eq_true (by kernel_rfl)) (by unfold Func.isWrapper; first | (rw [if_pos (by decide +kernel)]; kernel_rfl) | (rw [if_neg (by decide +kernel)]; exact ⟨rfl, rfl⟩))
    (fun os started H enc _ F => lifted os started H enc F)
theorem proved : Rows.FrameTornUptoSaid := over
end Go.Proofs.Ytgmlhcjcaebfgaa.frameTorn
namespace Go.Proofs.Ytgmlhcjcaebfgaa
/-- For every input of bulk at most 1048576 the law FrameTorn returns true, and its arguments read as before. No condition. -/
theorem frameTorn_holds : Rows.FrameTornUptoSaid := frameTorn.proved
end Go.Proofs.Ytgmlhcjcaebfgaa
