/- The law DiskTorn, walked. No condition. -/
import Derived.Test.YtieodkghfceflaaGG
set_option linter.unusedVariables false
set_option linter.unusedSimpArgs false
namespace Go.Proofs.Ytieodkghfceflaa.MD
open Go.Proofs.Ytieodkghfceflaa.Opening Go.Proofs.Ytieodkghfceflaa.Pure
open Go.RowKit Go.Proofs.YtieodkghfceflaaW.PrintWords Go.Proofs.YtieodkghfceflaaW.PrintLast Go.Proofs.YtieodkghfceflaaW.PrintMore
attribute [local go_sem] max2_int min2_int max_two min_two
theorem After.rows5 {w w' : World} {B d mb : Nat} {O : Nat → Prop} {m m' : DS} (h : IsD w B O d mb m) (hA : After w w' B O d mb m') : Rows5 w w' := by
  obtain ⟨_, _, _, hK, _⟩ := hA
  exact Rows5.kept hK fun k cs hc => h.not_dm hc (by decide)

set_option maxRecDepth 100000 in
set_option maxHeartbeats 32000000 in
theorem torn_true (w : World) (A : Option Addr) (c : Nat) (l : List S43) (hg : ∀ y ∈ l, gS43 y) (hr : Kd.C k43 w A l.length l) (hc : l.length ≤ c) (name : ByteArray) (h1 : name.size ≤ 140737488351232) (Am : Option Addr) (cm : Nat) (more : List Int) (hm : gB more) (hmr : Kd.C (Kd.int .u8) w Am more.length more) (hmc : more.length ≤ cm) (keep : Int) (hk0 : 0 ≤ keep) :
    Calls Try.prog 5 #[.slice A l.length c, .string name, .slice Am more.length cm, .int .i64 keep, .bool true] w fun e w' => e = .returned (.bool true) ∧ Below w.heap.size w w' := by
  have HBT := fun W hb => built_calls W A c l hg (Kd.C_below hr hb) hc
  obtain ⟨nn, hnn⟩ : ∃ nn, l.length = nn := ⟨_, rfl⟩
  rw [hnn] at HBT ⊢
  have HBT := Aside0.mk HBT
  have HN1 := Aside0.mk h1
  have HMB : Aside0 (Bytes more) := ⟨fun x hx => wf_u8 (hm.2.2 x hx)⟩
  have HML : Aside0 (more.length ≤ 140737488351232) := ⟨by have := hm.1; omega⟩
  obtain ⟨k0, hk⟩ : ∃ k0, name.size + 1 = k0 := ⟨_, rfl⟩
  have HM1 : Aside0 (path_Name.f k0 name = some (nm name)) := ⟨name_f h1 k0 (by omega)⟩
  obtain ⟨nm_, hnm⟩ : ∃ nm_, more.length = nm_ := ⟨_, rfl⟩
  have HNM := Aside0.mk hnm
  have HMC := Aside0.mk hmc
  have HMR := Aside0.mk hmr
  rw [hnm] at HMR HMC ⊢
  have HK0 := Aside0.mk hk0
  obtain ⟨nq, hnq⟩ : ∃ nq : Nat, (if (nm_ : Int) < keep then (nm_ : Int) else keep) = (nq : Int) := ⟨(if (nm_ : Int) < keep then (nm_ : Int) else keep).toNat, by split <;> omega⟩
  have HQ : Aside0 (more.take nq = more.take keep.toNat ∧ nq ≤ nm_) := ⟨by
    split at hnq
    · have e : nq = nm_ := by omega
      subst e
      rw [← hnm]
      exact ⟨by rw [List.take_of_length_le (Nat.le_refl _), List.take_of_length_le (by omega)], Nat.le_refl _⟩
    · have e : nq = keep.toNat := by omega
      rw [e]
      exact ⟨rfl, by omega⟩⟩
  have HNQ := Aside0.mk hnq
  have dk : decide (keep < 0) = false := decide_eq_false (by omega)
  clear hg hr hc hnn h1 hk hm hmr hmc hnm hk0 hnq
  go_enter Try.func5, Try.ntmps5
  go_upto_region 7 with (first
    | (go_at_call 7; refine (awake_calls w).mono ?_; rintro e w1 ⟨rfl, hb⟩; have HB1 := Aside0.mk hb; clear hb)
    | (go_at_call 17; refine (HBT.out w1 HB1.out).mono ?_; rintro e w2 ⟨d, mb, O, m, rfl, hD, hI, hb⟩; have HD2 := Aside0.mk hD; have HI2 := Aside0.mk hI; have HB2 := Aside0.mk (below_then HB1.out HB1.out.size hb); clear hD hI hb)
    | (go_at_call 18; refine (restart_calls w2 HD2.out).mono ?_; rintro e w3 ⟨rfl, hA⟩; obtain ⟨O3, hD, _, _, hb⟩ := hA; have HD3 := Aside0.mk hD; have HB3 := Aside0.mk (HB2.out.trans (hb.mono HB1.out.size)); clear hD hb))
  obtain ⟨m0, hm0⟩ : ∃ m0, ({ m with dead := false, armed := false } : DS) = m0 := ⟨_, rfl⟩
  obtain ⟨m1, hm1⟩ : ∃ m1, ({ m0 with armed := true, after := 0, keep := keep } : DS) = m1 := ⟨_, rfl⟩
  have hd0 : m0.dead = false := by rw [← hm0]
  have HM0 := Aside0.mk hm0
  have E1 : Aside0 (cutD m0 0 keep = (m1, 0)) := ⟨by rw [cut0 hd0 HK0.out, hm1]⟩
  have q1 : m1.dead = false := by rw [← hm1]; exact hd0
  have q2 : m1.armed = true := by rw [← hm1]
  have q3 : m1.after = 0 := by rw [← hm1]
  have HKE : Aside0 (m1.keep = keep) := ⟨by rw [← hm1]⟩
  have HD1 := Aside0.mk q1
  have HI0 : Aside0 (Inv 200 m0) := ⟨by rw [← hm0]; exact HI2.out.restart⟩
  have HI1 : Aside0 (Inv 200 m1) := ⟨by have h := HI0.out.cutD 0 keep (by decide); rw [E1.out] at h; exact h⟩
  have HO1 := Aside0.mk (HI1.out.ok (by decide))
  have hD3 := HD3.out
  rw [hm0] at hD3
  have HD3b := Aside0.mk hD3
  obtain ⟨S, hS⟩ : ∃ S, dataOf m1.files = S := ⟨_, rfl⟩
  have HS := Aside0.mk hS
  obtain ⟨no, hno⟩ : ∃ no, (ownOf m1 name).length = no := ⟨_, rfl⟩
  have HNO := Aside0.mk hno
  obtain ⟨th, hth⟩ : ∃ th, (fileOf m1.files name).isSome = th := ⟨_, rfl⟩
  have HTH := Aside0.mk hth
  have hcs := torn_cases (p := name) (own := (ownOf m1 name)) (more := more) q1 q2 q3 (nm name) (nm_cases name)
  rw [show (if nm name ≠ 0 then (m1, nm name) else layD m1 name (ownOf m1 name) more) = appendD (nm name) m1 name more from rfl] at hcs
  have HCS := Aside0.mk hcs
  have HIR : Aside0 (Inv 201 (appendD (nm name) m1 name more).1) := ⟨HI1.out.appendD name more⟩
  clear hm0 hm1 hd0 hD3 hS hno hth hcs q1 q2 q3
  rcases HCS.out with hR | hR | ⟨hR, hz⟩
  · have HR := Aside0.mk hR
    clear hR
    have tok1 : True := trivial
    have tok2 : True := trivial
    have tok3 : True := trivial
    go_wp2_with (first
      | (go_at_call 19; refine (cut_calls w3 HD3b.out 0 keep).mono ?_; rw [E1.out]; rintro e w4 ⟨rfl, hA⟩; obtain ⟨O4, hD, _, _, hb⟩ := hA; have HD4 := Aside0.mk hD; have HB4 := Aside0.mk (HB3.out.trans (hb.mono HB1.out.size)); clear hD hb)
      | (go_at_call 13; have _t := tok1; clear _t; refine (read_calls w4 HD4.out (p := name) (by have := HN1.out; omega) HO1.out).mono ?_; rintro e w5 ⟨v, rfl, hR5, hB⟩; rw [HTH.out]; obtain ⟨Ao, co, hv0⟩ := Kd.R_slice hR5; have hv : v = .slice Ao no co := hv0.trans (by rw [HNO.out]); clear hv0; subst hv; have HR5 := Aside0.mk hR5; have HD5 := Aside0.mk (HD4.out.below hB); have HB5 := Aside0.mk (below_then HB4.out HB4.out.size hB); clear hR5 hB tok1)
      | (go_at_call 20; have _t := tok2; clear _t; refine (data_calls w5 HD5.out HI1.out (by decide)).mono ?_; rw [HS.out]; rintro e w6 ⟨rfl, hb⟩; have HD6 := Aside0.mk (HD5.out.below hb); have HB6 := Aside0.mk (below_then HB5.out HB5.out.size hb); have HR6 := Aside0.mk (Kd.R_below HR5.out hb); obtain ⟨p6, hq6⟩ : ∃ p, w6.alloc (.cells #[.slice Am nm_ cm] 27) = p := ⟨_, rfl⟩; have hbp : Below w6.heap.size w6 p6 := (by rw [← hq6]; exact below_alloc (Below.refl _ _) _); have HDp := Aside0.mk (HD6.out.below hbp); have HBp := Aside0.mk (below_then HB6.out HB6.out.size hbp); have HRp := Aside0.mk (Kd.R_below HR6.out hbp); have HV : Aside0 (PartsV p6 (.slice (some ⟨w6.heap.size, 0, none⟩) 1 1) more) := ⟨.one _ Am cm more (by rw [HNM.out, ← hq6]; exact heap_alloc_new _ _) (by rw [HNM.out]; exact Kd.C_below HMR.out HBp.out)⟩; clear hb hbp tok2)
      | (go_at_call 9; have _t := tok3; clear _t; refine (append_calls k0 p6 HDp.out HV.out HMB.out (by have := HML.out; omega) (by have := HN1.out; omega) HO1.out (nm name) HM1.out).mono ?_; rw [HR.out]; rintro e w7 ⟨rfl, hA⟩; have HR7 := Aside0.mk (hA.rows5 HDp.out _ _ _ _ HRp.out); obtain ⟨O7, hD, _, _, hb⟩ := hA; have HD7 := Aside0.mk hD; have HB7 := Aside0.mk (HBp.out.trans (hb.mono HB1.out.size)); clear hD hb hq6 tok3)
      | (go_at_call 20; refine (data_calls w7 HD7.out HI1.out (by decide)).mono ?_; rw [HS.out]; rintro e w8 ⟨rfl, hb⟩; have HD8 := Aside0.mk (HD7.out.below hb); have HB8 := Aside0.mk (below_then HB7.out HB7.out.size hb); clear hb)
      | (go_at_call 21; refine (dead_calls w8 HD8.out).mono ?_; rw [HD1.out]; rintro e w9 ⟨rfl, rfl⟩))
    go_ret
    exact ⟨rfl, HB8.out⟩
  · have HR := Aside0.mk hR
    clear hR
    have tok1 : True := trivial
    have tok2 : True := trivial
    have tok3 : True := trivial
    go_wp2_with (first
      | (go_at_call 19; refine (cut_calls w3 HD3b.out 0 keep).mono ?_; rw [E1.out]; rintro e w4 ⟨rfl, hA⟩; obtain ⟨O4, hD, _, _, hb⟩ := hA; have HD4 := Aside0.mk hD; have HB4 := Aside0.mk (HB3.out.trans (hb.mono HB1.out.size)); clear hD hb)
      | (go_at_call 13; have _t := tok1; clear _t; refine (read_calls w4 HD4.out (p := name) (by have := HN1.out; omega) HO1.out).mono ?_; rintro e w5 ⟨v, rfl, hR5, hB⟩; rw [HTH.out]; obtain ⟨Ao, co, hv0⟩ := Kd.R_slice hR5; have hv : v = .slice Ao no co := hv0.trans (by rw [HNO.out]); clear hv0; subst hv; have HR5 := Aside0.mk hR5; have HD5 := Aside0.mk (HD4.out.below hB); have HB5 := Aside0.mk (below_then HB4.out HB4.out.size hB); clear hR5 hB tok1)
      | (go_at_call 20; have _t := tok2; clear _t; refine (data_calls w5 HD5.out HI1.out (by decide)).mono ?_; rw [HS.out]; rintro e w6 ⟨rfl, hb⟩; have HD6 := Aside0.mk (HD5.out.below hb); have HB6 := Aside0.mk (below_then HB5.out HB5.out.size hb); have HR6 := Aside0.mk (Kd.R_below HR5.out hb); obtain ⟨p6, hq6⟩ : ∃ p, w6.alloc (.cells #[.slice Am nm_ cm] 27) = p := ⟨_, rfl⟩; have hbp : Below w6.heap.size w6 p6 := (by rw [← hq6]; exact below_alloc (Below.refl _ _) _); have HDp := Aside0.mk (HD6.out.below hbp); have HBp := Aside0.mk (below_then HB6.out HB6.out.size hbp); have HRp := Aside0.mk (Kd.R_below HR6.out hbp); have HV : Aside0 (PartsV p6 (.slice (some ⟨w6.heap.size, 0, none⟩) 1 1) more) := ⟨.one _ Am cm more (by rw [HNM.out, ← hq6]; exact heap_alloc_new _ _) (by rw [HNM.out]; exact Kd.C_below HMR.out HBp.out)⟩; clear hb hbp tok2)
      | (go_at_call 9; have _t := tok3; clear _t; refine (append_calls k0 p6 HDp.out HV.out HMB.out (by have := HML.out; omega) (by have := HN1.out; omega) HO1.out (nm name) HM1.out).mono ?_; rw [HR.out]; rintro e w7 ⟨rfl, hA⟩; have HR7 := Aside0.mk (hA.rows5 HDp.out _ _ _ _ HRp.out); obtain ⟨O7, hD, _, _, hb⟩ := hA; have HD7 := Aside0.mk hD; have HB7 := Aside0.mk (HBp.out.trans (hb.mono HB1.out.size)); clear hD hb hq6 tok3)
      | (go_at_call 20; refine (data_calls w7 HD7.out HI1.out (by decide)).mono ?_; rw [HS.out]; rintro e w8 ⟨rfl, hb⟩; have HD8 := Aside0.mk (HD7.out.below hb); have HB8 := Aside0.mk (below_then HB7.out HB7.out.size hb); clear hb)
      | (go_at_call 21; refine (dead_calls w8 HD8.out).mono ?_; rw [HD1.out]; rintro e w9 ⟨rfl, rfl⟩))
    go_ret
    exact ⟨rfl, HB8.out⟩
  · have HR := Aside0.mk hR
    have HZ := Aside0.mk hz
    obtain ⟨m2, hm2⟩ : ∃ m2, tornM m1 name (ownOf m1 name) more = m2 := ⟨_, rfl⟩
    have HM2 := Aside0.mk hm2
    rw [hm2] at HR
    have HI2b : Aside0 (Inv 201 m2) := ⟨by have h := HIR.out; rw [HR.out] at h; exact h⟩
    have HO2 := Aside0.mk (HI2b.out.ok (by decide))
    have hf2 : fileOf m2.files name = some ((ownOf m1 name) ++ more.take nq) := by rw [← hm2, torn_file (ownOf_bytes m1 name) HMB.out, HKE.out, HQ.out.1]
    have hs2 : (fileOf m2.files name).isSome = true := by rw [hf2]; rfl
    have HF2 := Aside0.mk hf2
    have HOW : Aside0 (ownOf m2 name = (ownOf m1 name) ++ more.take nq) := ⟨by unfold ownOf; rw [hf2]; rfl⟩
    have hd2 : m2.dead = true := by rw [← hm2]; rfl
    have HD2D := Aside0.mk hd2
    have EP : Aside0 (putD 0 m2 name [] = (m2, 8)) := ⟨dead_put hs2 hd2⟩
    have ER : Aside0 (removeD 0 m2 name = (m2, 8)) := ⟨dead_remove hs2 hd2⟩
    obtain ⟨m3, hm3⟩ : ∃ m3, ({ m2 with dead := false, armed := false } : DS) = m3 := ⟨_, rfl⟩
    have HM3 := Aside0.mk hm3
    have hs3 : (fileOf m3.files name).isSome = true := by rw [← hm3]; exact hs2
    have ET := awake_trim (p := name) hs3 (by rw [← hm3]) (by rw [← hm3])
    have EM := awake_remove (p := name) hs3 (by rw [← hm3]) (by rw [← hm3])
    have HI3 : Aside0 (Inv 201 m3) := ⟨by rw [← hm3]; exact HI2b.out.restart⟩
    have HO3 := Aside0.mk (HI3.out.ok (by decide))
    have HF3 : Aside0 (m3.files = putF m1.files ⟨name, strOfNums ((ownOf m1 name) ++ more.take m1.keep.toNat)⟩) := ⟨by rw [← hm3, ← hm2]; rfl⟩
    obtain ⟨nb, hnb⟩ : ∃ nb, ((ownOf m1 name) ++ more.take nq).length = nb := ⟨_, rfl⟩
    have HNB := Aside0.mk hnb
    obtain ⟨O1, hO1⟩ : ∃ O1, strOfNums (ownOf m1 name) = O1 := ⟨_, rfl⟩
    obtain ⟨M1, hM1⟩ : ∃ M1, strOfNums (more.take nq) = M1 := ⟨_, rfl⟩
    have HO1s := Aside0.mk hO1
    have HM1s := Aside0.mk hM1
    have HBS : Aside0 (strOfNums ((ownOf m1 name) ++ more.take nq) = O1 ++ M1) := ⟨by rw [str_app (ownOf_bytes m1 name) (fun x hx => HMB.out x (List.mem_of_mem_take hx)), hO1, hM1]⟩
    have hz1 : O1.size + M1.size ≤ 9223372036854775807 := by
      rw [← hO1, ← hM1, strOfNums_size, strOfNums_size, List.length_take]
      have h1 := HML.out
      have h2 := HO1.out.own name
      omega
    have hz2 := eq_true hz1
    have hz3 : (9223372036854775807 < O1.size + M1.size) = False := eq_false (Nat.not_lt.2 hz1)
    have hq1 : (0 : Int) ≤ (nq : Int) := by omega
    have hq2 : (nq : Int) ≤ (nm_ : Int) := by have := HQ.out.2; omega
    have hq3 : (nq : Int) ≤ (cm : Int) := by have := HQ.out.2; have := HMC.out; omega
    have hnq := HNQ.out
    clear hR hz hm2 hf2 hs2 hd2 hm3 hs3 hnb hO1 hM1
    have tok1 : True := trivial
    have tok2 : True := trivial
    have tok3 : True := trivial
    go_upto_region 20 with (first
      | (go_at_call 19; refine (cut_calls w3 HD3b.out 0 keep).mono ?_; rw [E1.out]; rintro e w4 ⟨rfl, hA⟩; obtain ⟨O4, hD, _, _, hb⟩ := hA; have HD4 := Aside0.mk hD; have HB4 := Aside0.mk (HB3.out.trans (hb.mono HB1.out.size)); clear hD hb)
      | (go_at_call 13; have _t := tok1; clear _t; refine (read_calls w4 HD4.out (p := name) (by have := HN1.out; omega) HO1.out).mono ?_; rintro e w5 ⟨v, rfl, hR5, hB⟩; rw [HTH.out]; obtain ⟨Ao, co, hv0⟩ := Kd.R_slice hR5; have hv : v = .slice Ao no co := hv0.trans (by rw [HNO.out]); clear hv0; subst hv; have HR5 := Aside0.mk hR5; have HD5 := Aside0.mk (HD4.out.below hB); have HB5 := Aside0.mk (below_then HB4.out HB4.out.size hB); clear hR5 hB tok1)
      | (go_at_call 20; have _t := tok2; clear _t; refine (data_calls w5 HD5.out HI1.out (by decide)).mono ?_; rw [HS.out]; rintro e w6 ⟨rfl, hb⟩; have HD6 := Aside0.mk (HD5.out.below hb); have HB6 := Aside0.mk (below_then HB5.out HB5.out.size hb); have HR6 := Aside0.mk (Kd.R_below HR5.out hb); obtain ⟨p6, hq6⟩ : ∃ p, w6.alloc (.cells #[.slice Am nm_ cm] 27) = p := ⟨_, rfl⟩; have hbp : Below w6.heap.size w6 p6 := (by rw [← hq6]; exact below_alloc (Below.refl _ _) _); have HDp := Aside0.mk (HD6.out.below hbp); have HBp := Aside0.mk (below_then HB6.out HB6.out.size hbp); have HRp := Aside0.mk (Kd.R_below HR6.out hbp); have HV : Aside0 (PartsV p6 (.slice (some ⟨w6.heap.size, 0, none⟩) 1 1) more) := ⟨.one _ Am cm more (by rw [HNM.out, ← hq6]; exact heap_alloc_new _ _) (by rw [HNM.out]; exact Kd.C_below HMR.out HBp.out)⟩; clear hb hbp tok2)
      | (go_at_call 9; have _t := tok3; clear _t; refine (append_calls k0 p6 HDp.out HV.out HMB.out (by have := HML.out; omega) (by have := HN1.out; omega) HO1.out (nm name) HM1.out).mono ?_; rw [HR.out]; rintro e w7 ⟨rfl, hA⟩; have HR7 := Aside0.mk (hA.rows5 HDp.out _ _ _ _ HRp.out); obtain ⟨O7, hD, _, _, hb⟩ := hA; have HD7 := Aside0.mk hD; have HB7 := Aside0.mk (HBp.out.trans (hb.mono HB1.out.size)); clear hD hb hq6 tok3)
      | (go_at_call 13; refine (read_calls w7 HD7.out (p := name) (by have := HN1.out; omega) HO2.out).mono ?_; rintro e w8 ⟨v, rfl, hR8, hB⟩; rw [HF2.out]; rw [HOW.out] at hR8; obtain ⟨Ab, cb, hv0⟩ := Kd.R_slice hR8; have hv : v = .slice Ab nb cb := hv0.trans (by rw [HNB.out]); clear hv0; subst hv; have HRB8 := Aside0.mk hR8; have HRO8 := Aside0.mk (Kd.R_below HR7.out hB); have HD8 := Aside0.mk (HD7.out.below hB); have HB8 := Aside0.mk (below_then HB7.out HB7.out.size hB); clear hR8 hB))
    clear hnq
    obtain ⟨w9, hw9⟩ : ∃ w9, w8.drew = w9 := ⟨_, rfl⟩
    have hb89 : Below w8.heap.size w8 w9 := by rw [← hw9]; exact below_drew (Below.refl _ _)
    have HD9 := Aside0.mk (HD8.out.below hb89)
    have HB9 := Aside0.mk (below_then HB8.out HB8.out.size hb89)
    have HRB9 := Aside0.mk (Kd.R_below HRB8.out hb89)
    have HRO9 := Aside0.mk (Kd.R_below HRO8.out hb89)
    obtain ⟨p9, hp9⟩ : ∃ p, w9.alloc (.cells #[.slice none 0 0] 27) = p := ⟨_, rfl⟩
    have hb9p : Below w9.heap.size w9 p9 := by rw [← hp9]; exact below_alloc (Below.refl _ _) _
    have HDP9 := Aside0.mk (HD9.out.below hb9p)
    have HBP9 := Aside0.mk (below_then HB9.out HB9.out.size hb9p)
    have HRBP := Aside0.mk (Kd.R_below HRB9.out hb9p)
    have HROP := Aside0.mk (Kd.R_below HRO9.out hb9p)
    have HVP : Aside0 (PartsV p9 (.slice (some ⟨w9.heap.size, 0, none⟩) 1 1) []) := ⟨.one _ none 0 [] (by rw [← hp9]; exact heap_alloc_new _ _) (Kd.C_nil _ _)⟩
    have CB : ∀ W, Kd.R (Kd.int .u8) 5 W w7.heap.size (fun _ => True) (.slice Ab nb cb) ((ownOf m1 name) ++ more.take nq) → (convert 27 9 (.slice Ab nb cb)).run Try.prog W = .ok (.string (O1 ++ M1)) W := fun W h => by
      have := Kd.C_string (c := cb) Try.underlying27 Try.underlying5 Try.underlying9 (Kd.R_reads' h).2.2
      rw [HNB.out, HBS.out] at this
      exact this
    have CO : ∀ W, Kd.R (Kd.int .u8) 5 W w4.heap.size (fun _ => True) (.slice Ao no co) (ownOf m1 name) → (convert 27 9 (.slice Ao no co)).run Try.prog W = .ok (.string O1) W := fun W h => by
      have := Kd.C_string (c := co) Try.underlying27 Try.underlying5 Try.underlying9 (Kd.R_reads' h).2.2
      rw [HNO.out, HO1s.out] at this
      exact this
    have CM : ∀ W, Below w.heap.size w W → (convert 27 9 (.slice Am nq cm)).run Try.prog W = .ok (.string M1) W := fun W h => by
      have hC : Kd.C (Kd.int .u8) W Am more.length more := by rw [HNM.out]; exact Kd.C_below HMR.out h
      have hC2 := Kd.C_take (m := nq) hC (by rw [HNM.out]; exact HQ.out.2)
      rw [show (more.take nq).length = nq by rw [List.length_take, HNM.out]; have := HQ.out.2; omega] at hC2
      have := Kd.C_string (c := cm) Try.underlying27 Try.underlying5 Try.underlying9 hC2
      rw [HM1s.out] at this
      exact this
    have CB := Aside0.mk CB
    have CO := Aside0.mk CO
    have CM := Aside0.mk CM
    have a1 := CB.out w9 HRB9.out
    have a2 := CO.out w9 HRO9.out
    have a3 := CM.out w9 HB9.out
    have b1 := CB.out p9 HRBP.out
    have b2 := CO.out p9 HROP.out
    have b3 := CM.out p9 HBP9.out
    clear hb89 hb9p
    go_region_held3 (fun w' => (convert 27 9 (.slice Ab nb cb)).run Try.prog w' = .ok (.string (O1 ++ M1)) w' ∧ (convert 27 9 (.slice Ao no co)).run Try.prog w' = .ok (.string O1) w' ∧ (convert 27 9 (.slice Am nq cm)).run Try.prog w' = .ok (.string M1) w')
      (first | (refine ⟨?_, ?_, ?_⟩ <;> assumption) | go_keep)
      (first
        | (go_at_call 21; refine (dead_calls w9 HD9.out).mono ?_; rw [HD2D.out]; rintro e w9x ⟨rfl, rfl⟩)
        | (go_at_call 11; refine (put_calls k0 p9 HDP9.out HVP.out (fun x hx => by cases hx) (by simp) (by have := HN1.out; omega) HO2.out 0 (by rw [HM1.out, HZ.out])).mono ?_; rw [EP.out]; rintro e w10 ⟨rfl, hA⟩; have HRB10 := Aside0.mk (hA.rows5 HDP9.out _ _ _ _ HRBP.out); have HRO10 := Aside0.mk (hA.rows5 HDP9.out _ _ _ _ HROP.out); obtain ⟨O10, hD, _, _, hb⟩ := hA; have HD10 := Aside0.mk hD; have HB10 := Aside0.mk (HBP9.out.trans (hb.mono HB1.out.size)); have c1 := CB.out w10 HRB10.out; have c2 := CO.out w10 HRO10.out; have c3 := CM.out w10 HB10.out; clear hD hb)
        | (go_at_call 14; refine (remove_calls k0 w10 HD10.out (p := name) (by have := HN1.out; omega) HO2.out 0 (by rw [HM1.out, HZ.out])).mono ?_; rw [ER.out]; rintro e w11 ⟨rfl, hA⟩; have HRB11 := Aside0.mk (hA.rows5 HD10.out _ _ _ _ HRB10.out); have HRO11 := Aside0.mk (hA.rows5 HD10.out _ _ _ _ HRO10.out); obtain ⟨O11, hD, _, _, hb⟩ := hA; have HD11 := Aside0.mk hD; have HB11 := Aside0.mk (HB10.out.trans (hb.mono HB1.out.size)); have d1 := CB.out w11 HRB11.out; have d2 := CO.out w11 HRO11.out; have d3 := CM.out w11 HB11.out; clear hD hb))
    clear a1 a2 a3 b1 b2 b3 hz1 hz2 hz3 hq1 hq2 hq3
    cases th with
    | true =>
      obtain ⟨m4, e4, hd4⟩ := ET
      have E4 := Aside0.mk e4
      have D4 := Aside0.mk hd4
      clear e4 hd4 EM
      go_wp2_with (first
        | (go_at_call 18; refine (restart_calls w11 HD11.out).mono ?_; rw [HM3.out]; rintro e w12 ⟨rfl, hA⟩; obtain ⟨O12, hD, _, _, hb⟩ := hA; have HD12 := Aside0.mk hD; have HB12 := Aside0.mk (HB11.out.trans (hb.mono HB1.out.size)); clear hD hb)
        | (go_at_call 12; refine (trim_calls k0 w12 HD12.out (p := name) (by have := HN1.out; omega) HO3.out 0 (by rw [HM1.out, HZ.out]) 0).mono ?_; rw [E4.out]; rintro e w13 ⟨rfl, hA⟩; obtain ⟨O13, hD, _, _, hb⟩ := hA; have HD13 := Aside0.mk hD; have HB13 := Aside0.mk (HB12.out.trans (hb.mono HB1.out.size)); clear hD hb)
        | (go_at_call 21; refine (dead_calls w13 HD13.out).mono ?_; rw [D4.out]; rintro e w14 ⟨rfl, rfl⟩))
      go_ret
      exact ⟨rfl, HB13.out⟩
    | false =>
      obtain ⟨m4, e4, hf4⟩ := EM
      have E4 := Aside0.mk e4
      have hnone : ∀ x ∈ m1.files, kB x.f0 ≠ kB name := fileOf_none.mp (by
        cases hx : fileOf m1.files name with
        | none => rfl
        | some s => have h := HTH.out; rw [hx] at h; cases h)
      have HDT : Aside0 (dataOf m4.files = S) := ⟨by rw [hf4, HF3.out, dropF_put _ _ _ hnone]; exact HS.out⟩
      have HI4 : Aside0 (Inv 202 m4) := ⟨by have h := HI3.out.removeD name; rw [HZ.out, e4] at h; exact h⟩
      clear e4 hf4 ET hnone
      go_wp2_with (first
        | (go_at_call 18; refine (restart_calls w11 HD11.out).mono ?_; rw [HM3.out]; rintro e w12 ⟨rfl, hA⟩; obtain ⟨O12, hD, _, _, hb⟩ := hA; have HD12 := Aside0.mk hD; have HB12 := Aside0.mk (HB11.out.trans (hb.mono HB1.out.size)); clear hD hb)
        | (go_at_call 14; refine (remove_calls k0 w12 HD12.out (p := name) (by have := HN1.out; omega) HO3.out 0 (by rw [HM1.out, HZ.out])).mono ?_; rw [E4.out]; rintro e w13 ⟨rfl, hA⟩; obtain ⟨O13, hD, _, _, hb⟩ := hA; have HD13 := Aside0.mk hD; have HB13 := Aside0.mk (HB12.out.trans (hb.mono HB1.out.size)); clear hD hb)
        | (go_at_call 20; refine (data_calls w13 HD13.out HI4.out (by decide)).mono ?_; rw [HDT.out]; rintro e w14 ⟨rfl, hb⟩; have HB14 := Aside0.mk (below_then HB13.out HB13.out.size hb); clear hb))
      go_ret
      exact ⟨rfl, HB14.out⟩

set_option maxRecDepth 100000 in
set_option maxHeartbeats 32000000 in
theorem torn_false (w : World) (A : Option Addr) (c : Nat) (l : List S43) (hg : ∀ y ∈ l, gS43 y) (hr : Kd.C k43 w A l.length l) (hc : l.length ≤ c) (name : ByteArray) (h1 : name.size ≤ 140737488351232) (Am : Option Addr) (cm : Nat) (more : List Int) (hm : gB more) (hmr : Kd.C (Kd.int .u8) w Am more.length more) (hmc : more.length ≤ cm) (keep : Int) (hk0 : 0 ≤ keep) :
    Calls Try.prog 5 #[.slice A l.length c, .string name, .slice Am more.length cm, .int .i64 keep, .bool false] w fun e w' => e = .returned (.bool true) ∧ Below w.heap.size w w' := by
  have HBT := fun W hb => built_calls W A c l hg (Kd.C_below hr hb) hc
  obtain ⟨nn, hnn⟩ : ∃ nn, l.length = nn := ⟨_, rfl⟩
  rw [hnn] at HBT ⊢
  have HBT := Aside0.mk HBT
  have HN1 := Aside0.mk h1
  have HMB : Aside0 (Bytes more) := ⟨fun x hx => wf_u8 (hm.2.2 x hx)⟩
  have HML : Aside0 (more.length ≤ 140737488351232) := ⟨by have := hm.1; omega⟩
  obtain ⟨k0, hk⟩ : ∃ k0, name.size + 1 = k0 := ⟨_, rfl⟩
  have HM1 : Aside0 (path_Name.f k0 name = some (nm name)) := ⟨name_f h1 k0 (by omega)⟩
  obtain ⟨nm_, hnm⟩ : ∃ nm_, more.length = nm_ := ⟨_, rfl⟩
  have HNM := Aside0.mk hnm
  have HMC := Aside0.mk hmc
  have HMR := Aside0.mk hmr
  rw [hnm] at HMR HMC ⊢
  have HK0 := Aside0.mk hk0
  obtain ⟨nq, hnq⟩ : ∃ nq : Nat, (if (nm_ : Int) < keep then (nm_ : Int) else keep) = (nq : Int) := ⟨(if (nm_ : Int) < keep then (nm_ : Int) else keep).toNat, by split <;> omega⟩
  have HQ : Aside0 (more.take nq = more.take keep.toNat ∧ nq ≤ nm_) := ⟨by
    split at hnq
    · have e : nq = nm_ := by omega
      subst e
      rw [← hnm]
      exact ⟨by rw [List.take_of_length_le (Nat.le_refl _), List.take_of_length_le (by omega)], Nat.le_refl _⟩
    · have e : nq = keep.toNat := by omega
      rw [e]
      exact ⟨rfl, by omega⟩⟩
  have HNQ := Aside0.mk hnq
  have dk : decide (keep < 0) = false := decide_eq_false (by omega)
  clear hg hr hc hnn h1 hk hm hmr hmc hnm hk0 hnq
  go_enter Try.func5, Try.ntmps5
  go_upto_region 7 with (first
    | (go_at_call 7; refine (awake_calls w).mono ?_; rintro e w1 ⟨rfl, hb⟩; have HB1 := Aside0.mk hb; clear hb)
    | (go_at_call 17; refine (HBT.out w1 HB1.out).mono ?_; rintro e w2 ⟨d, mb, O, m, rfl, hD, hI, hb⟩; have HD2 := Aside0.mk hD; have HI2 := Aside0.mk hI; have HB2 := Aside0.mk (below_then HB1.out HB1.out.size hb); clear hD hI hb)
    | (go_at_call 18; refine (restart_calls w2 HD2.out).mono ?_; rintro e w3 ⟨rfl, hA⟩; obtain ⟨O3, hD, _, _, hb⟩ := hA; have HD3 := Aside0.mk hD; have HB3 := Aside0.mk (HB2.out.trans (hb.mono HB1.out.size)); clear hD hb))
  obtain ⟨m0, hm0⟩ : ∃ m0, ({ m with dead := false, armed := false } : DS) = m0 := ⟨_, rfl⟩
  obtain ⟨m1, hm1⟩ : ∃ m1, ({ m0 with armed := true, after := 0, keep := keep } : DS) = m1 := ⟨_, rfl⟩
  have hd0 : m0.dead = false := by rw [← hm0]
  have HM0 := Aside0.mk hm0
  have E1 : Aside0 (cutD m0 0 keep = (m1, 0)) := ⟨by rw [cut0 hd0 HK0.out, hm1]⟩
  have q1 : m1.dead = false := by rw [← hm1]; exact hd0
  have q2 : m1.armed = true := by rw [← hm1]
  have q3 : m1.after = 0 := by rw [← hm1]
  have HKE : Aside0 (m1.keep = keep) := ⟨by rw [← hm1]⟩
  have HD1 := Aside0.mk q1
  have HI0 : Aside0 (Inv 200 m0) := ⟨by rw [← hm0]; exact HI2.out.restart⟩
  have HI1 : Aside0 (Inv 200 m1) := ⟨by have h := HI0.out.cutD 0 keep (by decide); rw [E1.out] at h; exact h⟩
  have HO1 := Aside0.mk (HI1.out.ok (by decide))
  have hD3 := HD3.out
  rw [hm0] at hD3
  have HD3b := Aside0.mk hD3
  obtain ⟨S, hS⟩ : ∃ S, dataOf m1.files = S := ⟨_, rfl⟩
  have HS := Aside0.mk hS
  obtain ⟨no, hno⟩ : ∃ no, (ownOf m1 name).length = no := ⟨_, rfl⟩
  have HNO := Aside0.mk hno
  obtain ⟨th, hth⟩ : ∃ th, (fileOf m1.files name).isSome = th := ⟨_, rfl⟩
  have HTH := Aside0.mk hth
  have hcs := torn_cases (p := name) (own := ([] : List Int)) (more := more) q1 q2 q3 (nm name) (nm_cases name)
  rw [show (if nm name ≠ 0 then (m1, nm name) else layD m1 name ([] : List Int) more) = putD (nm name) m1 name more from rfl] at hcs
  have HCS := Aside0.mk hcs
  have HIR : Aside0 (Inv 201 (putD (nm name) m1 name more).1) := ⟨HI1.out.putD name more⟩
  clear hm0 hm1 hd0 hD3 hS hno hth hcs q1 q2 q3
  rcases HCS.out with hR | hR | ⟨hR, hz⟩
  · have HR := Aside0.mk hR
    clear hR
    have tok1 : True := trivial
    have tok2 : True := trivial
    have tok3 : True := trivial
    go_wp2_with (first
      | (go_at_call 19; refine (cut_calls w3 HD3b.out 0 keep).mono ?_; rw [E1.out]; rintro e w4 ⟨rfl, hA⟩; obtain ⟨O4, hD, _, _, hb⟩ := hA; have HD4 := Aside0.mk hD; have HB4 := Aside0.mk (HB3.out.trans (hb.mono HB1.out.size)); clear hD hb)
      | (go_at_call 13; have _t := tok1; clear _t; refine (read_calls w4 HD4.out (p := name) (by have := HN1.out; omega) HO1.out).mono ?_; rintro e w5 ⟨v, rfl, hR5, hB⟩; rw [HTH.out]; obtain ⟨Ao, co, hv0⟩ := Kd.R_slice hR5; have hv : v = .slice Ao no co := hv0.trans (by rw [HNO.out]); clear hv0; subst hv; have HR5 := Aside0.mk hR5; have HD5 := Aside0.mk (HD4.out.below hB); have HB5 := Aside0.mk (below_then HB4.out HB4.out.size hB); clear hR5 hB tok1)
      | (go_at_call 20; have _t := tok2; clear _t; refine (data_calls w5 HD5.out HI1.out (by decide)).mono ?_; rw [HS.out]; rintro e w6 ⟨rfl, hb⟩; have HD6 := Aside0.mk (HD5.out.below hb); have HB6 := Aside0.mk (below_then HB5.out HB5.out.size hb); have HR6 := Aside0.mk (Kd.R_below HR5.out hb); obtain ⟨p6, hq6⟩ : ∃ p, w6.alloc (.cells #[.slice Am nm_ cm] 27) = p := ⟨_, rfl⟩; have hbp : Below w6.heap.size w6 p6 := (by rw [← hq6]; exact below_alloc (Below.refl _ _) _); have HDp := Aside0.mk (HD6.out.below hbp); have HBp := Aside0.mk (below_then HB6.out HB6.out.size hbp); have HRp := Aside0.mk (Kd.R_below HR6.out hbp); have HV : Aside0 (PartsV p6 (.slice (some ⟨w6.heap.size, 0, none⟩) 1 1) more) := ⟨.one _ Am cm more (by rw [HNM.out, ← hq6]; exact heap_alloc_new _ _) (by rw [HNM.out]; exact Kd.C_below HMR.out HBp.out)⟩; clear hb hbp tok2)
      | (go_at_call 11; have _t := tok3; clear _t; refine (put_calls k0 p6 HDp.out HV.out HMB.out (by have := HML.out; omega) (by have := HN1.out; omega) HO1.out (nm name) HM1.out).mono ?_; rw [HR.out]; rintro e w7 ⟨rfl, hA⟩; have HR7 := Aside0.mk (hA.rows5 HDp.out _ _ _ _ HRp.out); obtain ⟨O7, hD, _, _, hb⟩ := hA; have HD7 := Aside0.mk hD; have HB7 := Aside0.mk (HBp.out.trans (hb.mono HB1.out.size)); clear hD hb hq6 tok3)
      | (go_at_call 20; refine (data_calls w7 HD7.out HI1.out (by decide)).mono ?_; rw [HS.out]; rintro e w8 ⟨rfl, hb⟩; have HD8 := Aside0.mk (HD7.out.below hb); have HB8 := Aside0.mk (below_then HB7.out HB7.out.size hb); clear hb)
      | (go_at_call 21; refine (dead_calls w8 HD8.out).mono ?_; rw [HD1.out]; rintro e w9 ⟨rfl, rfl⟩))
    go_ret
    exact ⟨rfl, HB8.out⟩
  · have HR := Aside0.mk hR
    clear hR
    have tok1 : True := trivial
    have tok2 : True := trivial
    have tok3 : True := trivial
    go_wp2_with (first
      | (go_at_call 19; refine (cut_calls w3 HD3b.out 0 keep).mono ?_; rw [E1.out]; rintro e w4 ⟨rfl, hA⟩; obtain ⟨O4, hD, _, _, hb⟩ := hA; have HD4 := Aside0.mk hD; have HB4 := Aside0.mk (HB3.out.trans (hb.mono HB1.out.size)); clear hD hb)
      | (go_at_call 13; have _t := tok1; clear _t; refine (read_calls w4 HD4.out (p := name) (by have := HN1.out; omega) HO1.out).mono ?_; rintro e w5 ⟨v, rfl, hR5, hB⟩; rw [HTH.out]; obtain ⟨Ao, co, hv0⟩ := Kd.R_slice hR5; have hv : v = .slice Ao no co := hv0.trans (by rw [HNO.out]); clear hv0; subst hv; have HR5 := Aside0.mk hR5; have HD5 := Aside0.mk (HD4.out.below hB); have HB5 := Aside0.mk (below_then HB4.out HB4.out.size hB); clear hR5 hB tok1)
      | (go_at_call 20; have _t := tok2; clear _t; refine (data_calls w5 HD5.out HI1.out (by decide)).mono ?_; rw [HS.out]; rintro e w6 ⟨rfl, hb⟩; have HD6 := Aside0.mk (HD5.out.below hb); have HB6 := Aside0.mk (below_then HB5.out HB5.out.size hb); have HR6 := Aside0.mk (Kd.R_below HR5.out hb); obtain ⟨p6, hq6⟩ : ∃ p, w6.alloc (.cells #[.slice Am nm_ cm] 27) = p := ⟨_, rfl⟩; have hbp : Below w6.heap.size w6 p6 := (by rw [← hq6]; exact below_alloc (Below.refl _ _) _); have HDp := Aside0.mk (HD6.out.below hbp); have HBp := Aside0.mk (below_then HB6.out HB6.out.size hbp); have HRp := Aside0.mk (Kd.R_below HR6.out hbp); have HV : Aside0 (PartsV p6 (.slice (some ⟨w6.heap.size, 0, none⟩) 1 1) more) := ⟨.one _ Am cm more (by rw [HNM.out, ← hq6]; exact heap_alloc_new _ _) (by rw [HNM.out]; exact Kd.C_below HMR.out HBp.out)⟩; clear hb hbp tok2)
      | (go_at_call 11; have _t := tok3; clear _t; refine (put_calls k0 p6 HDp.out HV.out HMB.out (by have := HML.out; omega) (by have := HN1.out; omega) HO1.out (nm name) HM1.out).mono ?_; rw [HR.out]; rintro e w7 ⟨rfl, hA⟩; have HR7 := Aside0.mk (hA.rows5 HDp.out _ _ _ _ HRp.out); obtain ⟨O7, hD, _, _, hb⟩ := hA; have HD7 := Aside0.mk hD; have HB7 := Aside0.mk (HBp.out.trans (hb.mono HB1.out.size)); clear hD hb hq6 tok3)
      | (go_at_call 20; refine (data_calls w7 HD7.out HI1.out (by decide)).mono ?_; rw [HS.out]; rintro e w8 ⟨rfl, hb⟩; have HD8 := Aside0.mk (HD7.out.below hb); have HB8 := Aside0.mk (below_then HB7.out HB7.out.size hb); clear hb)
      | (go_at_call 21; refine (dead_calls w8 HD8.out).mono ?_; rw [HD1.out]; rintro e w9 ⟨rfl, rfl⟩))
    go_ret
    exact ⟨rfl, HB8.out⟩
  · have HR := Aside0.mk hR
    have HZ := Aside0.mk hz
    obtain ⟨m2, hm2⟩ : ∃ m2, tornM m1 name ([] : List Int) more = m2 := ⟨_, rfl⟩
    have HM2 := Aside0.mk hm2
    rw [hm2] at HR
    have HI2b : Aside0 (Inv 201 m2) := ⟨by have h := HIR.out; rw [HR.out] at h; exact h⟩
    have HO2 := Aside0.mk (HI2b.out.ok (by decide))
    have hf2 : fileOf m2.files name = some (([] : List Int) ++ more.take nq) := by rw [← hm2, torn_file (fun x hx => by cases hx) HMB.out, HKE.out, HQ.out.1]
    have hs2 : (fileOf m2.files name).isSome = true := by rw [hf2]; rfl
    have HF2 := Aside0.mk hf2
    have HOW : Aside0 (ownOf m2 name = ([] : List Int) ++ more.take nq) := ⟨by unfold ownOf; rw [hf2]; rfl⟩
    have hd2 : m2.dead = true := by rw [← hm2]; rfl
    have HD2D := Aside0.mk hd2
    have EP : Aside0 (putD 0 m2 name [] = (m2, 8)) := ⟨dead_put hs2 hd2⟩
    have ER : Aside0 (removeD 0 m2 name = (m2, 8)) := ⟨dead_remove hs2 hd2⟩
    obtain ⟨m3, hm3⟩ : ∃ m3, ({ m2 with dead := false, armed := false } : DS) = m3 := ⟨_, rfl⟩
    have HM3 := Aside0.mk hm3
    have hs3 : (fileOf m3.files name).isSome = true := by rw [← hm3]; exact hs2
    have ET := awake_trim (p := name) hs3 (by rw [← hm3]) (by rw [← hm3])
    have EM := awake_remove (p := name) hs3 (by rw [← hm3]) (by rw [← hm3])
    have HI3 : Aside0 (Inv 201 m3) := ⟨by rw [← hm3]; exact HI2b.out.restart⟩
    have HO3 := Aside0.mk (HI3.out.ok (by decide))
    have HF3 : Aside0 (m3.files = putF m1.files ⟨name, strOfNums (([] : List Int) ++ more.take m1.keep.toNat)⟩) := ⟨by rw [← hm3, ← hm2]; rfl⟩
    obtain ⟨nb, hnb⟩ : ∃ nb, (([] : List Int) ++ more.take nq).length = nb := ⟨_, rfl⟩
    have HNB := Aside0.mk hnb
    obtain ⟨O1, hO1⟩ : ∃ O1, strOfNums ([] : List Int) = O1 := ⟨_, rfl⟩
    obtain ⟨M1, hM1⟩ : ∃ M1, strOfNums (more.take nq) = M1 := ⟨_, rfl⟩
    have HO1s := Aside0.mk hO1
    have HM1s := Aside0.mk hM1
    have HBS : Aside0 (strOfNums (([] : List Int) ++ more.take nq) = O1 ++ M1) := ⟨by rw [str_app (fun x hx => by cases hx) (fun x hx => HMB.out x (List.mem_of_mem_take hx)), hO1, hM1]⟩
    have hz1 : O1.size + M1.size ≤ 9223372036854775807 := by
      rw [← hO1, ← hM1, strOfNums_size, strOfNums_size, List.length_take]
      have h1 := HML.out
      simp
      omega
    have hz2 := eq_true hz1
    have hz3 : (9223372036854775807 < O1.size + M1.size) = False := eq_false (Nat.not_lt.2 hz1)
    have hq1 : (0 : Int) ≤ (nq : Int) := by omega
    have hq2 : (nq : Int) ≤ (nm_ : Int) := by have := HQ.out.2; omega
    have hq3 : (nq : Int) ≤ (cm : Int) := by have := HQ.out.2; have := HMC.out; omega
    have hnq := HNQ.out
    clear hR hz hm2 hf2 hs2 hd2 hm3 hs3 hnb hO1 hM1
    have tok1 : True := trivial
    have tok2 : True := trivial
    have tok3 : True := trivial
    go_upto_region 20 with (first
      | (go_at_call 19; refine (cut_calls w3 HD3b.out 0 keep).mono ?_; rw [E1.out]; rintro e w4 ⟨rfl, hA⟩; obtain ⟨O4, hD, _, _, hb⟩ := hA; have HD4 := Aside0.mk hD; have HB4 := Aside0.mk (HB3.out.trans (hb.mono HB1.out.size)); clear hD hb)
      | (go_at_call 13; have _t := tok1; clear _t; refine (read_calls w4 HD4.out (p := name) (by have := HN1.out; omega) HO1.out).mono ?_; rintro e w5 ⟨v, rfl, hR5, hB⟩; rw [HTH.out]; obtain ⟨Ao, co, hv0⟩ := Kd.R_slice hR5; have hv : v = .slice Ao no co := hv0.trans (by rw [HNO.out]); clear hv0; subst hv; have HR5 := Aside0.mk hR5; have HD5 := Aside0.mk (HD4.out.below hB); have HB5 := Aside0.mk (below_then HB4.out HB4.out.size hB); clear hR5 hB tok1)
      | (go_at_call 20; have _t := tok2; clear _t; refine (data_calls w5 HD5.out HI1.out (by decide)).mono ?_; rw [HS.out]; rintro e w6 ⟨rfl, hb⟩; have HD6 := Aside0.mk (HD5.out.below hb); have HB6 := Aside0.mk (below_then HB5.out HB5.out.size hb); have HR6 := Aside0.mk (Kd.R_below HR5.out hb); obtain ⟨p6, hq6⟩ : ∃ p, w6.alloc (.cells #[.slice Am nm_ cm] 27) = p := ⟨_, rfl⟩; have hbp : Below w6.heap.size w6 p6 := (by rw [← hq6]; exact below_alloc (Below.refl _ _) _); have HDp := Aside0.mk (HD6.out.below hbp); have HBp := Aside0.mk (below_then HB6.out HB6.out.size hbp); have HRp := Aside0.mk (Kd.R_below HR6.out hbp); have HV : Aside0 (PartsV p6 (.slice (some ⟨w6.heap.size, 0, none⟩) 1 1) more) := ⟨.one _ Am cm more (by rw [HNM.out, ← hq6]; exact heap_alloc_new _ _) (by rw [HNM.out]; exact Kd.C_below HMR.out HBp.out)⟩; clear hb hbp tok2)
      | (go_at_call 11; have _t := tok3; clear _t; refine (put_calls k0 p6 HDp.out HV.out HMB.out (by have := HML.out; omega) (by have := HN1.out; omega) HO1.out (nm name) HM1.out).mono ?_; rw [HR.out]; rintro e w7 ⟨rfl, hA⟩; have HR7 := Aside0.mk (hA.rows5 HDp.out _ _ _ _ HRp.out); obtain ⟨O7, hD, _, _, hb⟩ := hA; have HD7 := Aside0.mk hD; have HB7 := Aside0.mk (HBp.out.trans (hb.mono HB1.out.size)); clear hD hb hq6 tok3)
      | (go_at_call 13; refine (read_calls w7 HD7.out (p := name) (by have := HN1.out; omega) HO2.out).mono ?_; rintro e w8 ⟨v, rfl, hR8, hB⟩; rw [HF2.out]; rw [HOW.out] at hR8; obtain ⟨Ab, cb, hv0⟩ := Kd.R_slice hR8; have hv : v = .slice Ab nb cb := hv0.trans (by rw [HNB.out]); clear hv0; subst hv; have HRB8 := Aside0.mk hR8; have HRO8 := Aside0.mk (Kd.R_below HR7.out hB); have HD8 := Aside0.mk (HD7.out.below hB); have HB8 := Aside0.mk (below_then HB7.out HB7.out.size hB); clear hR8 hB))
    clear hnq
    obtain ⟨w9, hw9⟩ : ∃ w9, w8.drew = w9 := ⟨_, rfl⟩
    have hb89 : Below w8.heap.size w8 w9 := by rw [← hw9]; exact below_drew (Below.refl _ _)
    have HD9 := Aside0.mk (HD8.out.below hb89)
    have HB9 := Aside0.mk (below_then HB8.out HB8.out.size hb89)
    have HRB9 := Aside0.mk (Kd.R_below HRB8.out hb89)
    have HRO9 := Aside0.mk (Kd.R_below HRO8.out hb89)
    obtain ⟨p9, hp9⟩ : ∃ p, w9.alloc (.cells #[.slice none 0 0] 27) = p := ⟨_, rfl⟩
    have hb9p : Below w9.heap.size w9 p9 := by rw [← hp9]; exact below_alloc (Below.refl _ _) _
    have HDP9 := Aside0.mk (HD9.out.below hb9p)
    have HBP9 := Aside0.mk (below_then HB9.out HB9.out.size hb9p)
    have HRBP := Aside0.mk (Kd.R_below HRB9.out hb9p)
    have HROP := Aside0.mk (Kd.R_below HRO9.out hb9p)
    have HVP : Aside0 (PartsV p9 (.slice (some ⟨w9.heap.size, 0, none⟩) 1 1) []) := ⟨.one _ none 0 [] (by rw [← hp9]; exact heap_alloc_new _ _) (Kd.C_nil _ _)⟩
    have CB : ∀ W, Kd.R (Kd.int .u8) 5 W w7.heap.size (fun _ => True) (.slice Ab nb cb) (([] : List Int) ++ more.take nq) → (convert 27 9 (.slice Ab nb cb)).run Try.prog W = .ok (.string (O1 ++ M1)) W := fun W h => by
      have := Kd.C_string (c := cb) Try.underlying27 Try.underlying5 Try.underlying9 (Kd.R_reads' h).2.2
      rw [HNB.out, HBS.out] at this
      exact this
    have CO : ∀ W, Kd.R (Kd.int .u8) 5 W w4.heap.size (fun _ => True) (.slice Ao no co) (ownOf m1 name) → (convert 27 9 (.slice none 0 0)).run Try.prog W = .ok (.string O1) W := fun W h => by
      have := Kd.C_string (c := 0) Try.underlying27 Try.underlying5 Try.underlying9 (Kd.C_nil (Kd.int .u8) W)
      rw [HO1s.out] at this
      exact this
    have CM : ∀ W, Below w.heap.size w W → (convert 27 9 (.slice Am nq cm)).run Try.prog W = .ok (.string M1) W := fun W h => by
      have hC : Kd.C (Kd.int .u8) W Am more.length more := by rw [HNM.out]; exact Kd.C_below HMR.out h
      have hC2 := Kd.C_take (m := nq) hC (by rw [HNM.out]; exact HQ.out.2)
      rw [show (more.take nq).length = nq by rw [List.length_take, HNM.out]; have := HQ.out.2; omega] at hC2
      have := Kd.C_string (c := cm) Try.underlying27 Try.underlying5 Try.underlying9 hC2
      rw [HM1s.out] at this
      exact this
    have CB := Aside0.mk CB
    have CO := Aside0.mk CO
    have CM := Aside0.mk CM
    have a1 := CB.out w9 HRB9.out
    have a2 := CO.out w9 HRO9.out
    have a3 := CM.out w9 HB9.out
    have b1 := CB.out p9 HRBP.out
    have b2 := CO.out p9 HROP.out
    have b3 := CM.out p9 HBP9.out
    clear hb89 hb9p
    go_region_held3 (fun w' => (convert 27 9 (.slice Ab nb cb)).run Try.prog w' = .ok (.string (O1 ++ M1)) w' ∧ (convert 27 9 (.slice none 0 0)).run Try.prog w' = .ok (.string O1) w' ∧ (convert 27 9 (.slice Am nq cm)).run Try.prog w' = .ok (.string M1) w')
      (first | (refine ⟨?_, ?_, ?_⟩ <;> assumption) | go_keep)
      (first
        | (go_at_call 21; refine (dead_calls w9 HD9.out).mono ?_; rw [HD2D.out]; rintro e w9x ⟨rfl, rfl⟩)
        | (go_at_call 11; refine (put_calls k0 p9 HDP9.out HVP.out (fun x hx => by cases hx) (by simp) (by have := HN1.out; omega) HO2.out 0 (by rw [HM1.out, HZ.out])).mono ?_; rw [EP.out]; rintro e w10 ⟨rfl, hA⟩; have HRB10 := Aside0.mk (hA.rows5 HDP9.out _ _ _ _ HRBP.out); have HRO10 := Aside0.mk (hA.rows5 HDP9.out _ _ _ _ HROP.out); obtain ⟨O10, hD, _, _, hb⟩ := hA; have HD10 := Aside0.mk hD; have HB10 := Aside0.mk (HBP9.out.trans (hb.mono HB1.out.size)); have c1 := CB.out w10 HRB10.out; have c2 := CO.out w10 HRO10.out; have c3 := CM.out w10 HB10.out; clear hD hb)
        | (go_at_call 14; refine (remove_calls k0 w10 HD10.out (p := name) (by have := HN1.out; omega) HO2.out 0 (by rw [HM1.out, HZ.out])).mono ?_; rw [ER.out]; rintro e w11 ⟨rfl, hA⟩; have HRB11 := Aside0.mk (hA.rows5 HD10.out _ _ _ _ HRB10.out); have HRO11 := Aside0.mk (hA.rows5 HD10.out _ _ _ _ HRO10.out); obtain ⟨O11, hD, _, _, hb⟩ := hA; have HD11 := Aside0.mk hD; have HB11 := Aside0.mk (HB10.out.trans (hb.mono HB1.out.size)); have d1 := CB.out w11 HRB11.out; have d2 := CO.out w11 HRO11.out; have d3 := CM.out w11 HB11.out; clear hD hb))
    clear a1 a2 a3 b1 b2 b3 hz1 hz2 hz3 hq1 hq2 hq3
    cases th with
    | true =>
      obtain ⟨m4, e4, hd4⟩ := ET
      have E4 := Aside0.mk e4
      have D4 := Aside0.mk hd4
      clear e4 hd4 EM
      go_wp2_with (first
        | (go_at_call 18; refine (restart_calls w11 HD11.out).mono ?_; rw [HM3.out]; rintro e w12 ⟨rfl, hA⟩; obtain ⟨O12, hD, _, _, hb⟩ := hA; have HD12 := Aside0.mk hD; have HB12 := Aside0.mk (HB11.out.trans (hb.mono HB1.out.size)); clear hD hb)
        | (go_at_call 12; refine (trim_calls k0 w12 HD12.out (p := name) (by have := HN1.out; omega) HO3.out 0 (by rw [HM1.out, HZ.out]) 0).mono ?_; rw [E4.out]; rintro e w13 ⟨rfl, hA⟩; obtain ⟨O13, hD, _, _, hb⟩ := hA; have HD13 := Aside0.mk hD; have HB13 := Aside0.mk (HB12.out.trans (hb.mono HB1.out.size)); clear hD hb)
        | (go_at_call 21; refine (dead_calls w13 HD13.out).mono ?_; rw [D4.out]; rintro e w14 ⟨rfl, rfl⟩))
      go_ret
      exact ⟨rfl, HB13.out⟩
    | false =>
      obtain ⟨m4, e4, hf4⟩ := EM
      have E4 := Aside0.mk e4
      have hnone : ∀ x ∈ m1.files, kB x.f0 ≠ kB name := fileOf_none.mp (by
        cases hx : fileOf m1.files name with
        | none => rfl
        | some s => have h := HTH.out; rw [hx] at h; cases h)
      have HDT : Aside0 (dataOf m4.files = S) := ⟨by rw [hf4, HF3.out, dropF_put _ _ _ hnone]; exact HS.out⟩
      have HI4 : Aside0 (Inv 202 m4) := ⟨by have h := HI3.out.removeD name; rw [HZ.out, e4] at h; exact h⟩
      clear e4 hf4 ET hnone
      go_wp2_with (first
        | (go_at_call 18; refine (restart_calls w11 HD11.out).mono ?_; rw [HM3.out]; rintro e w12 ⟨rfl, hA⟩; obtain ⟨O12, hD, _, _, hb⟩ := hA; have HD12 := Aside0.mk hD; have HB12 := Aside0.mk (HB11.out.trans (hb.mono HB1.out.size)); clear hD hb)
        | (go_at_call 14; refine (remove_calls k0 w12 HD12.out (p := name) (by have := HN1.out; omega) HO3.out 0 (by rw [HM1.out, HZ.out])).mono ?_; rw [E4.out]; rintro e w13 ⟨rfl, hA⟩; obtain ⟨O13, hD, _, _, hb⟩ := hA; have HD13 := Aside0.mk hD; have HB13 := Aside0.mk (HB12.out.trans (hb.mono HB1.out.size)); clear hD hb)
        | (go_at_call 20; refine (data_calls w13 HD13.out HI4.out (by decide)).mono ?_; rw [HDT.out]; rintro e w14 ⟨rfl, hb⟩; have HB14 := Aside0.mk (below_then HB13.out HB13.out.size hb); clear hb))
      go_ret
      exact ⟨rfl, HB14.out⟩

set_option maxRecDepth 100000 in
set_option maxHeartbeats 8000000 in
theorem torn_neg (w : World) (A : Option Addr) (c : Nat) (l : List S43) (hg : ∀ y ∈ l, gS43 y) (hr : Kd.C k43 w A l.length l) (hc : l.length ≤ c) (name : ByteArray) (mv : Value) (keep : Int) (hk0 : keep < 0) (behind : Bool) :
    Calls Try.prog 5 #[.slice A l.length c, .string name, mv, .int .i64 keep, .bool behind] w fun e w' => e = .returned (.bool true) ∧ Below w.heap.size w w' := by
  have HBT := fun W hb => built_calls W A c l hg (Kd.C_below hr hb) hc
  obtain ⟨nn, hnn⟩ : ∃ nn, l.length = nn := ⟨_, rfl⟩
  rw [hnn] at HBT ⊢
  have HBT := Aside0.mk HBT
  have dk : decide (keep < 0) = true := decide_eq_true hk0
  clear hg hr hc hnn hk0
  go_enter Try.func5, Try.ntmps5
  go_wp2_with (first
    | (go_at_call 7; refine (awake_calls w).mono ?_; rintro e w1 ⟨rfl, hb⟩; have HB1 := Aside0.mk hb; clear hb)
    | (go_at_call 17; refine (HBT.out w1 HB1.out).mono ?_; rintro e w2 ⟨d, mb, O, m, rfl, hD, hI, hb⟩; have HD2 := Aside0.mk hD; have HI2 := Aside0.mk hI; have HB2 := Aside0.mk (below_then HB1.out HB1.out.size hb); clear hD hI hb)
    | (go_at_call 18; refine (restart_calls w2 HD2.out).mono ?_; rintro e w3 ⟨rfl, hA⟩; obtain ⟨O3, hD, _, _, hb⟩ := hA; have HD3 := Aside0.mk hD; have HB3 := Aside0.mk (HB2.out.trans (hb.mono HB1.out.size)); clear hD hb))
  go_ret
  exact ⟨rfl, HB3.out⟩
theorem torn_walk (W : World) (A : Option Addr) (c : Nat) (l : List S43) (name : ByteArray) (Am : Option Addr) (cm : Nat) (more : List Int) (keep : Int) (behind : Bool) (g : l.length * 88 ≤ 140737488351232 ∧ l.length ≤ 9223372036854775807 ∧ ∀ y ∈ l, gS43 y) (hr : Kd.C k43 W A l.length l) (hc : l.length ≤ c) (h1 : name.size ≤ 140737488351232) (hm : gB more) (hmr : Kd.C (Kd.int .u8) W Am more.length more) (hmc : more.length ≤ cm) (hk : (Lit.int .i64 keep).wf = true) :
    Calls Try.prog 5 #[.slice A l.length c, .string name, .slice Am more.length cm, .int .i64 keep, .bool behind] W fun e W' => e = .returned (.bool true) ∧ Below W.heap.size W W' := by
  by_cases h0 : keep < 0
  · exact torn_neg W A c l g.2.2 hr hc name _ keep h0 behind
  · cases behind with
    | true => exact torn_true W A c l g.2.2 hr hc name h1 Am cm more hm hmr hmc keep (by omega)
    | false => exact torn_false W A c l g.2.2 hr hc name h1 Am cm more hm hmr hmc keep (by omega)
end Go.Proofs.Ytieodkghfceflaa.MD
