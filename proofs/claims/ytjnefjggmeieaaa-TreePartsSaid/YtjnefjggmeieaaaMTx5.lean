/- Laid by this claim's own program (myprint) out of the translation: functions that the laws of the group T reach, each as a plain function, with the proof that the Go code comes to it. No condition. -/
import Derived.Test.YtjnefjggmeieaaaMTx0
import Derived.Test.YtjnefjggmeieaaaMTx4
namespace Go.Proofs.Ytjnefjggmeieaaa.MT
open Go.Proofs.Ytjnefjggmeieaaa.Opening
open Go.RowKit Go.Proofs.YtjnefjggmeieaaaW.PrintWords Go.Proofs.YtjnefjggmeieaaaW.PrintLast Go.Proofs.YtjnefjggmeieaaaW.PrintMore
attribute [local go_sem] max2_int min2_int max_two min_two max_three min_three max_four min_four   -- for this text's walks alone
set_option linter.unusedVariables false
set_option linter.unusedSimpArgs false

/-! ### tree_Moves: function 10 -/
set_option linter.unusedVariables false
set_option linter.unusedSimpArgs false
theorem law36 : Maps.Keyed Try.prog 36 := Maps.int_keyed Try.underlying36
theorem zero34 (w : World) : (zeroValue 34).run Try.prog w = .ok (.slice none 0 0) w := by kernel_rfl
theorem key36 {a : Int} (hw : (Lit.int .u64 a).wf = true) : keyOf Try.prog 36 (.int .u64 a) = some (.int .u64 a) := Maps.keyOf_int_mk Try.underlying36 hw
/-- What is gone, by its blob. -/
def addG (G : Int → List ByteArray) (c : S51) : Int → List ByteArray := if c.f2 = 0 then fun x => if x = c.f1 then G x ++ [c.f0] else G x else G
structure MInv (w : World) (g mb : Nat) (GF : Int → List ByteArray) (W : World) (rest : List S51) : Prop where
  var : W.heap[g]? = some (.cells #[.map (some mb)] 71 (0, 0))
  base : w.heap.size ≤ g ∧ w.heap.size ≤ mb
  below : Below w.heap.size w W
  wf : ∀ c ∈ rest, (Lit.int .u64 c.f1).wf = true
  map : ∃ (n : Nat) (f : Lit → Option Value) (G : Int → List ByteArray), MapAt Try.prog 36 W mb n f ∧ n + rest.length ≤ 4000000000 ∧ rest.foldl addG G = GF ∧ (∀ id, (G id).length ≤ n) ∧
    (∀ id v, f (.int .u64 id) = some v → Kd.R Kd.string 9 W w.heap.size (fun _ => True) v (G id)) ∧ (∀ id, f (.int .u64 id) = none → G id = []) ∧
    (∀ id id' v v', id ≠ id' → f (.int .u64 id) = some v → f (.int .u64 id') = some v' → ∀ k, v.ownBlock = some k → v'.ownBlock ≠ some k)
theorem MInv.drewN {w : World} {g mb : Nat} {GF : Int → List ByteArray} {W : World} {rest : List S51} (h : MInv w g mb GF W rest) (m : Nat) : MInv w g mb GF (W.drewN m) rest := by
  obtain ⟨h1, h2, h3, h4, n, f, G, a1, a2, a3, a4, a5, a6, a7⟩ := h
  exact ⟨h1, h2, pw_below_drewN h3 m, h4, n, f, G, a1.block rfl, a2, a3, a4, fun id v hv => Kd.R_drewN (a5 id v hv) m, a6, a7⟩
theorem MInv.step {w : World} {g mb : Nat} {GF : Int → List ByteArray} {W W' : World} {c : S51} {rest : List S51} (h : MInv w g mb GF W (c :: rest)) (hb : Below W.heap.size W W') (hc : c.f2 ≠ 0) : MInv w g mb GF W' rest := by
  obtain ⟨h1, h2, h3, h4, n, f, G, a1, a2, a3, a4, a5, a6, a7⟩ := h
  refine ⟨(hb.block g (blk_lt h1)).trans h1, h2, below_then h3 h3.size hb, fun x hx => h4 x (List.mem_cons_of_mem _ hx), n, f, G, a1.below hb, by simp at a2; omega, ?_, a4, fun id v hv => Kd.R_below (a5 id v hv) hb, a6, a7⟩
  rw [List.foldl_cons] at a3
  rw [← a3]
  congr 1
  unfold addG
  rw [if_neg hc]
set_option maxHeartbeats 4000000 in
set_option maxRecDepth 100000 in
theorem moves1_calls (w : World) (g mb : Nat) (GF : Int → List ByteArray) (W : World) (c : S51) (l : List S51) (hI : MInv w g mb GF W (c :: l)) :
    Calls Try.prog 30 #[.agg #[.string c.f0, .int .u64 c.f1, .int .u64 c.f2], .pointer (some ⟨g, 0, none⟩)] W fun e w' => e = .returned (.tuple #[]) ∧ MInv w g mb GF w' l := by
  have HI := Aside0.mk hI
  clear hI
  obtain ⟨w1, hw1⟩ : ∃ w1, W.alloc (.cells #[.string c.f0, .int .u64 c.f1, .int .u64 c.f2] 51) = w1 := ⟨_, rfl⟩
  have hbx : w1.heap[W.heap.size]? = some (.cells #[.string c.f0, .int .u64 c.f1, .int .u64 c.f2] 51 (0, 0)) := by rw [← hw1]; exact heap_alloc_new W _
  have HBX := Aside0.mk hbx
  have HB1 : Aside0 (Below W.heap.size W w1) := ⟨by rw [← hw1]; exact below_alloc (Below.refl _ _) _⟩
  have hc0 : w1.cell? ⟨W.heap.size, 0, none⟩ = some (.string c.f0) := (blk_cell hbx 0).trans rfl
  have hc1 : w1.cell? ⟨W.heap.size, 1, none⟩ = some (.int .u64 c.f1) := (blk_cell hbx 1).trans rfl
  have hc2 : w1.cell? ⟨W.heap.size, 2, none⟩ = some (.int .u64 c.f2) := (blk_cell hbx 2).trans rfl
  by_cases h0 : c.f2 = 0
  · have hq : (c.f2 == 0) = true := by simpa using h0
    have H0 := Aside0.mk h0
    clear hbx h0
    obtain ⟨hg, hba, hbl, hwf, n, f, G, hM, hn, hGF, hGl, hrow, hnil, hap⟩ := HI.out
    have HW : Aside0 ((Lit.int .u64 c.f1).wf = true) := ⟨hwf c (List.mem_cons_self ..)⟩
    obtain ⟨v0, hv0, hR0⟩ : ∃ v0, (f (.int .u64 c.f1)).getD (.slice none 0 0) = v0 ∧ Kd.R Kd.string 9 W w.heap.size (fun _ => True) v0 (G c.f1) := by
      cases hf : f (.int .u64 c.f1) with
      | none => exact ⟨_, rfl, by rw [hnil _ hf]; exact Kd.R_nil _ _ _ _ _⟩
      | some v => exact ⟨_, rfl, hrow _ _ hf⟩
    have HBD : Aside0 (Below w.heap.size w w1.drew) := ⟨below_drew (below_then hbl hbl.size HB1.out)⟩
    have HRD : Aside0 (Kd.R Kd.string 9 w1.drew w.heap.size (fun _ => True) v0 (G c.f1)) := ⟨Kd.R_drew (Kd.R_below hR0 HB1.out)⟩
    have HL : Aside0 ((G c.f1).length ≤ 4000000000) := ⟨by have := hGl c.f1; omega⟩
    have HG1 : Aside0 (w1.drew.heap[g]? = some (.cells #[.map (some mb)] 71 (0, 0))) := ⟨(HB1.out.block g (blk_lt hg)).trans hg⟩
    have HM1 : Aside0 (MapAt Try.prog 36 w1.drew mb n f) := ⟨(hM.below HB1.out).block rfl⟩
    have HV0 := Aside0.mk hv0
    have HX : Aside0 (∀ id v, f (.int .u64 id) = some v → Kd.R Kd.string 9 w1.drew w.heap.size (fun _ => True) v (G id)) := ⟨fun id v h => Kd.R_drew (Kd.R_below (hrow id v h) HB1.out)⟩
    have HN := Aside0.mk hn
    have HGF := Aside0.mk hGF
    have HGL := Aside0.mk hGl
    have HNI := Aside0.mk hnil
    have HAP := Aside0.mk hap
    have HBA := Aside0.mk hba
    have HWF := Aside0.mk hwf
    clear hg hba hbl hwf hM hn hGF hGl hrow hnil hap hR0 hv0
    go_enter Try.func30, Try.ntmps30
    go_upto_region 2 with (fail)
    refine start_ (n := 12) (S := fun w' => w'.heap[g]? = some (.cells #[.map (some mb)] 71 (0, 0)) ∧ w'.cell? ⟨g, 0, none⟩ = some (.map (some mb)) ∧ w'.cell? ⟨W.heap.size, 0, none⟩ = some (.string c.f0) ∧ w'.cell? ⟨W.heap.size, 1, none⟩ = some (.int .u64 c.f1) ∧ w'.cell? ⟨W.heap.size, 2, none⟩ = some (.int .u64 c.f2) ∧ MapAt Try.prog 36 w' mb n f) (ds := [11]) #[false, false, false, false, false, false, false, false, false, false, false, false] (by kernel_rfl) rfl rfl ⟨HG1.out, (blk_cell HG1.out 0).trans rfl, hc0, hc1, hc2, HM1.out⟩ (fun hHeld => ?_)
    refine take_ (i := 0) (N := (some 6)) (v := ?_) (a' := ?_) #[true, false, false, false, false, false, false, false, false, false, false, false] rfl rfl (by kernel_rfl) (fun _ _ _ h => h) (Or.inl ⟨by rfl, ?_⟩) hHeld ?_ ?_
    rotate_left
    · intro w' s0
      (try dsimp only at s0)
      (try obtain ⟨_, s1, s2, s3, s4, s5, s6⟩ := s0)
      (try obtain ⟨_, s1, s2, s3, s4, s5⟩ := s0)
      (try obtain ⟨_, s1, s2, s3, s4⟩ := s0)
      go_simp
      first | done | (with_reducible rfl)
    rotate_left
    · simp only [Act.put, List.setIfInBounds_toArray, List.set_cons_zero, List.set_cons_succ, i64_w, i32_w]
      rfl
    refine pure_ (i := 1) (N := (some 7)) (v := ?_) (a' := ?_) #[true, true, false, false, false, false, false, false, false, false, false, false] rfl rfl (by kernel_rfl) (fun _ _ _ h => h) (Or.inl ⟨by rfl, ?_⟩) ?_ ?_
    rotate_left
    · intro w'
      go_simp
      first | done | (with_reducible rfl)
    rotate_left
    · simp only [Act.put, List.setIfInBounds_toArray, List.set_cons_zero, List.set_cons_succ, i64_w, i32_w]
      rfl
    refine take_ (i := 2) (N := (some 8)) (v := ?_) (a' := ?_) #[true, true, true, false, false, false, false, false, false, false, false, false] rfl rfl (by kernel_rfl) (fun _ _ _ h => h) (Or.inl ⟨by rfl, ?_⟩) hHeld ?_ ?_
    rotate_left
    · intro w' s0
      (try dsimp only at s0)
      (try obtain ⟨_, s1, s2, s3, s4, s5, s6⟩ := s0)
      (try obtain ⟨_, s1, s2, s3, s4, s5⟩ := s0)
      (try obtain ⟨_, s1, s2, s3, s4⟩ := s0)
      go_simp
      first | done | (with_reducible rfl)
    rotate_left
    · simp only [Act.put, List.setIfInBounds_toArray, List.set_cons_zero, List.set_cons_succ, i64_w, i32_w]
      rfl
    refine take_ (i := 3) (N := (some 9)) (v := ?_) (a' := ?_) #[true, true, true, true, false, false, false, false, false, false, false, false] rfl rfl (by kernel_rfl) (fun _ _ _ h => h) (Or.inl ⟨by rfl, ?_⟩) hHeld ?_ ?_
    rotate_left
    · intro w' s0
      (try dsimp only at s0)
      (try obtain ⟨_, s1, s2, s3, s4, s5, s6⟩ := s0)
      (try obtain ⟨_, s1, s2, s3, s4, s5⟩ := s0)
      (try obtain ⟨_, s1, s2, s3, s4⟩ := s0)
      go_simp
      first | done | (with_reducible rfl)
    rotate_left
    · simp only [Act.put, List.setIfInBounds_toArray, List.set_cons_zero, List.set_cons_succ, i64_w, i32_w]
      rfl
    refine pure_ (i := 4) (N := (some 10)) (v := ?_) (a' := ?_) #[true, true, true, true, true, false, false, false, false, false, false, false] rfl rfl (by kernel_rfl) (fun _ _ _ h => h) (Or.inl ⟨by rfl, ?_⟩) ?_ ?_
    rotate_left
    · intro w'
      go_simp
      first | done | (with_reducible rfl)
    rotate_left
    · simp only [Act.put, List.setIfInBounds_toArray, List.set_cons_zero, List.set_cons_succ, i64_w, i32_w]
      rfl
    refine take_ (i := 5) (N := (some 11)) (v := ?_) (a' := ?_) #[true, true, true, true, true, true, false, false, false, false, false, false] rfl rfl (by kernel_rfl) (fun _ _ _ h => h) (Or.inl ⟨by rfl, ?_⟩) hHeld ?_ ?_
    rotate_left
    · intro w' s0
      (try dsimp only at s0)
      (try obtain ⟨_, s1, s2, s3, s4, s5, s6⟩ := s0)
      (try obtain ⟨_, s1, s2, s3, s4, s5⟩ := s0)
      (try obtain ⟨_, s1, s2, s3, s4⟩ := s0)
      go_simp
      first | done | (with_reducible rfl)
    rotate_left
    · simp only [Act.put, List.setIfInBounds_toArray, List.set_cons_zero, List.set_cons_succ, i64_w, i32_w]
      rfl
    refine take_ (i := 6) (N := (some 12)) (v := ?_) (a' := ?_) #[true, true, true, true, true, true, true, false, false, false, false, false] rfl rfl (by kernel_rfl) (fun _ _ _ h => h) (Or.inl ⟨by rfl, ?_⟩) hHeld ?_ ?_
    rotate_left
    · intro w' s0
      obtain ⟨_, _, _, _, _, s5⟩ := s0
      go_simp
      erw [s5.look law36 Try.underlying71 (zero34 _) (key36 HW.out), HV0.out]
      rfl
    rotate_left
    · simp only [Act.put, List.setIfInBounds_toArray, List.set_cons_zero, List.set_cons_succ, i64_w, i32_w]
      rfl
    refine pure_ (i := 7) (N := (some 13)) (v := ?_) (a' := ?_) #[true, true, true, true, true, true, true, true, false, false, false, false] rfl rfl (by kernel_rfl) (fun _ _ _ h => h) (Or.inl ⟨by rfl, ?_⟩) ?_ ?_
    rotate_left
    · intro w'
      go_simp
      first | done | (with_reducible rfl)
    rotate_left
    · simp only [Act.put, List.setIfInBounds_toArray, List.set_cons_zero, List.set_cons_succ, i64_w, i32_w]
      rfl
    refine take_ (i := 8) (N := (some 14)) (v := ?_) (a' := ?_) #[true, true, true, true, true, true, true, true, true, false, false, false] rfl rfl (by kernel_rfl) (fun _ _ _ h => h) (Or.inl ⟨by rfl, ?_⟩) hHeld ?_ ?_
    rotate_left
    · intro w' s0
      (try dsimp only at s0)
      (try obtain ⟨_, s1, s2, s3, s4, s5, s6⟩ := s0)
      (try obtain ⟨_, s1, s2, s3, s4, s5⟩ := s0)
      (try obtain ⟨_, s1, s2, s3, s4⟩ := s0)
      go_simp
      first | done | (with_reducible rfl)
    rotate_left
    · simp only [Act.put, List.setIfInBounds_toArray, List.set_cons_zero, List.set_cons_succ, i64_w, i32_w]
      rfl
    refine one_ (i := 9) (N := (some 15)) #[true, true, true, true, true, true, true, true, true, true, false, false] rfl rfl (by kernel_rfl) (by decide) (fun K hK => ?_)
    refine value_ (w1 := w1.drew.alloc (.cells #[.string c.f0] 9)) (v := .slice (some ⟨w1.drew.heap.size, 0, none⟩) 1 1) (by rfl) rfl ?_ ?_
    · go_simp
    refine hK.out _ _ ⟨((below_alloc (Below.refl _ _) _).block g (blk_lt hHeld.1)).trans hHeld.1, (World.cell?_alloc_lt _ _ _ (World.block_lt_of_cell? _ _ hHeld.2.1)).trans hHeld.2.1, (World.cell?_alloc_lt _ _ _ (World.block_lt_of_cell? _ _ hHeld.2.2.1)).trans hHeld.2.2.1, (World.cell?_alloc_lt _ _ _ (World.block_lt_of_cell? _ _ hHeld.2.2.2.1)).trans hHeld.2.2.2.1, (World.cell?_alloc_lt _ _ _ (World.block_lt_of_cell? _ _ hHeld.2.2.2.2.1)).trans hHeld.2.2.2.2.1, hHeld.2.2.2.2.2.below (below_alloc (Below.refl _ _) _)⟩ (fun hHeld => ?_)
    clear hK K
    refine norm_ (a' := ?_) ?_ ?_
    rotate_left
    · show Act.put _ (some 15) _ = _
      simp only [Act.put, List.setIfInBounds_toArray, List.set_cons_zero, List.set_cons_succ, i64_w, i32_w]
      rfl
    refine one_ (i := 10) (N := (some 16)) #[true, true, true, true, true, true, true, true, true, true, true, false] rfl rfl (by kernel_rfl) (by decide) (fun K hK => ?_)
    refine Kd.R_append_step Kd.string (w0 := w) w.heap.size (by rfl) (.tmp 12) (.tmp 15) 34 9 (.string ⟨#[]⟩) 16 rfl Try.underlying34 info9 rfl (by decide) (by omega) v0 (G c.f1) c.f0 [.string c.f0] (fun _ => True) (fun _ => False) rfl rfl ?aP (fun _ hk => hk.elim) ?aF ?aO ?aB ?aS ?aL ?_
    (case aP => exact rfl)
    (case aB => exact HBD.out)
    (case aF => exact (fun _ _ => trivial))
    (case aO => exact HRD.out)
    (case aS => exact HBD.out.size)
    (case aL => have := HL.out; omega)
    intro v1 w2 ho hb hg hat
    have HO := Aside0.mk ho
    have HB2 := Aside0.mk hb
    have HG := Aside0.mk hg
    have HAT := Aside0.mk hat
    clear ho hb hg hat
    have HNE : Aside0 (some g ≠ v0.ownBlock) := ⟨Kd.R_ne HRD.out HG1.out (by decide)⟩
    have HBX1 : Aside0 (w1.drew.heap[W.heap.size]? = some (.cells #[.string c.f0, .int .u64 c.f1, .int .u64 c.f2] 51 (0, 0))) := ⟨HBX.out⟩
    have HBX2 := Aside0.mk (blk_grown HBX1.out HG.out (Kd.R_ne HRD.out HBX1.out (by decide)))
    have HG2 := Aside0.mk (blk_grown HG1.out HG.out HNE.out)
    have HM2 := Aside0.mk (HM1.out.kept HG.out (HM1.out.ne_row HRD.out))
    refine hK.out _ _ ⟨HG2.out, (blk_cell HG2.out 0).trans rfl, (blk_cell HBX2.out 0).trans rfl, (blk_cell HBX2.out 1).trans rfl, (blk_cell HBX2.out 2).trans rfl, HM2.out⟩ (fun hHeld => ?_)
    clear hK K
    refine norm_ (a' := ?_) ?_ ?_
    rotate_left
    · show Act.put _ (some 16) _ = _
      simp only [Act.put, List.setIfInBounds_toArray, List.set_cons_zero, List.set_cons_succ, i64_w, i32_w]
      rfl
    refine last_ (i := 11) (N := none) #[true, true, true, true, true, true, true, true, true, true, true, true] rfl rfl (by kernel_rfl) (by decide) (fun K hK => ?_)
    obtain ⟨w3, hrun, HM3, HG3⟩ := HM2.out.store law36 Try.underlying71 (by have := HN.out; simp at this; unfold maxLen; omega) (key36 HW.out) trivial v1
    have HM3 := Aside0.mk HM3
    have HG3 := Aside0.mk HG3
    refine skip_ (w1 := w3) (by rfl) rfl ?_ ?_
    · go_simp
    refine hK.out _ _ ?_
    clear hK K
    refine done_ (by kernel_rfl) ?_

    go_wp2
    go_end0
    have hf' : ∀ id : Int, (if (Lit.int .u64 id).sameKey (.int .u64 c.f1) = true then some v1 else f (.int .u64 id)) = if id = c.f1 then some v1 else f (.int .u64 id) := fun id => by
      by_cases h : id = c.f1
      · subst h; rw [if_pos (WideAt.sameKey_self (a := .int .u64 c.f1) trivial), if_pos rfl]
      · rw [if_neg h, Maps.sameKey_ne (by simpa using h)]; rfl
    have hv0n : ∀ k, v0.ownBlock = some k → ∃ v, f (.int .u64 c.f1) = some v ∧ v.ownBlock = some k := fun k hk => by
      have h := HV0.out
      cases hf : f (.int .u64 c.f1) with
      | none => rw [hf] at h; subst h; cases hk
      | some v => rw [hf] at h; subst h; exact ⟨_, rfl, hk⟩
    have hmb1 : some mb ≠ v1.ownBlock := HM2.out.ne_row HO.out
    have hmbx : ∀ id v, f (.int .u64 id) = some v → some mb ≠ v.ownBlock := fun id v h => HM1.out.ne_row (HX.out id v h)
    have hap1 : ∀ id v, id ≠ c.f1 → f (.int .u64 id) = some v → ∀ k, v.ownBlock = some k → v1.ownBlock ≠ some k := fun id v hid hv k hk h1 => by
      rcases HAT.out with h2 | ⟨b, h2, h3⟩
      · rw [h2] at h1
        obtain ⟨v', hv', hk'⟩ := hv0n k h1
        exact HAP.out c.f1 id v' v (fun h => hid h.symm) hv' hv k hk' hk
      · rw [h2] at h1
        cases h1
        exact absurd (Kd.R_lt (HX.out id v hv) _ hk) (by omega)
    refine ⟨rfl, ⟨blk_grown HG2.out HG3.out (fun h => HM2.out.ne_cells HG2.out (Option.some.inj h)), HBA.out, pw_below_grown HB2.out _ HB2.out.size HG3.out (fun k hk => by cases hk; exact HBA.out.2), fun x hx => HWF.out x (List.mem_cons_of_mem _ hx), n + 1, _, addG G c, HM3.out, by have := HN.out; simp at this; omega, HGF.out, ?_, ?_, ?_, ?_⟩⟩
    · intro id
      unfold addG
      rw [if_pos H0.out]
      have := HGL.out id
      split
      · simp; omega
      · omega
    · intro id v hv
      rw [hf'] at hv
      unfold addG
      rw [if_pos H0.out]
      by_cases hid : id = c.f1
      · rw [if_pos hid] at hv ⊢
        cases hv
        rw [hid]
        exact Kd.R_grown2 HO.out rfl HG3.out (fun k hk => by rw [← hk]; exact hmb1)
      · rw [if_neg hid] at hv ⊢
        refine Kd.R_grown2 (Kd.R_grown2 (HX.out id v hv) rfl HG.out (fun k hk he => ?_)) rfl HG3.out (fun k hk => by rw [← hk]; exact hmbx id v hv)
        obtain ⟨v', hv', hk'⟩ := hv0n k hk
        exact HAP.out c.f1 id v' v (fun h => hid h.symm) hv' hv k hk' he.symm
    · intro id hv
      rw [hf'] at hv
      unfold addG
      rw [if_pos H0.out]
      by_cases hid : id = c.f1
      · rw [if_pos hid] at hv; cases hv
      · rw [if_neg hid] at hv ⊢; exact HNI.out id hv
    · intro id id' v v' hne hv hv' k hk
      rw [hf'] at hv hv'
      by_cases hid : id = c.f1
      · rw [if_pos hid] at hv
        cases hv
        rw [if_neg (fun h => hne (hid.trans h.symm))] at hv'
        exact fun h => hap1 id' v' (fun h => hne (hid.trans h.symm)) hv' k h hk
      · rw [if_neg hid] at hv
        by_cases hid' : id' = c.f1
        · rw [if_pos hid'] at hv'
          cases hv'
          exact hap1 id v hid hv k hk
        · rw [if_neg hid'] at hv'
          exact HAP.out id id' v v' hne hv hv' k hk
  · have hq : (c.f2 == 0) = false := by simpa using h0
    have H0 := Aside0.mk h0
    clear hbx h0
    go_enter Try.func30, Try.ntmps30
    go_wp2
    go_end0
    exact ⟨rfl, HI.out.step HB1.out H0.out⟩
theorem info32 : (Try.prog.info? 32).map (fun i => (i.zero, i.size, i.bytes)) = some (some (.agg #[(.string ⟨#[]⟩), (.string ⟨#[]⟩)]), 2, 32) := by kernel_rfl
/-- A row of texts that is read, in a block of texts. -/
def TRow (W : World) (v : Value) (xs : List ByteArray) : Prop :=
  ∃ A c, v = .slice A xs.length c ∧ xs.length ≤ c ∧ Kd.C Kd.string W A xs.length xs ∧ ∀ ad, A = some ad → 0 < xs.length → ∃ cells, W.heap[ad.block]? = some (.cells cells 9 (0, 0))
theorem TRow.nil (W : World) : TRow W (.slice none 0 0) [] := ⟨none, 0, rfl, Nat.le_refl _, Kd.C_nil _ W, fun ad h => by cases h⟩
theorem TRow.of_R {W : World} {base : Nat} {ok : Nat → Prop} {v : Value} {xs : List ByteArray} (h : Kd.R Kd.string 9 W base ok v xs) : TRow W v xs := by
  have ht := Kd.R_typed h
  obtain ⟨A, c, he, hl, hr⟩ := Kd.R_reads h
  subst he
  refine ⟨A, c, rfl, by omega, hr, fun ad ha hp => ?_⟩
  obtain ⟨g, cap, he, _, _, cells, hc⟩ := Kd.R_form h hp
  injection he with h1 h2 h3
  rw [h1] at ha
  cases ha
  exact ⟨cells, hc⟩
theorem TRow.kept {W W' : World} {S : Nat → Prop} {v : Value} {xs : List ByteArray} (h : TRow W v xs) (hk : Kept W W' S) (hne : ∀ k cells, W.heap[k]? = some (.cells cells 9 (0, 0)) → ¬ S k) : TRow W' v xs := by
  obtain ⟨A, c, rfl, hc, hC, ht⟩ := h
  refine ⟨A, c, rfl, hc, Kd.C_foot_neS (fun h => h) hC (fun ad ha hn => ?_) W' hk, fun ad ha hp => ?_⟩
  · obtain ⟨cells, hcl⟩ := ht ad ha hn
    exact hne _ _ hcl
  · obtain ⟨cells, hcl⟩ := ht ad ha hp
    exact ⟨cells, blk_kept hcl hk (hne _ _ hcl)⟩
theorem TRow.below {W W' : World} {v : Value} {xs : List ByteArray} (h : TRow W v xs) (hb : Below W.heap.size W W') : TRow W' v xs := h.kept (S := fun _ => False) (Kept.of_below hb _) (fun _ _ _ h => h)
/-- The first one, and what is left. -/
theorem TRow.head {W : World} {v : Value} {x : ByteArray} {xs : List ByteArray} (h : TRow W v (x :: xs)) : ∃ ad c, v = .slice (some ad) (xs.length + 1) c ∧ xs.length + 1 ≤ c ∧ W.cell? ad = some (.string x) ∧
    TRow W (.slice (if c = 1 then some ad else some ⟨ad.block, ad.off + 1, none⟩) xs.length (c - 1)) xs := by
  obtain ⟨A, c, rfl, hc, hC, ht⟩ := h
  obtain ⟨ad, cs, rfl, hl, hk, hcell⟩ := Kd.C_get hC x 0 (by omega) (by simp)
  have hk : cs = [.string x] := hk
  subst hk
  have e0 : ad.add 0 = ad := by simp [go_sem]
  have e1 : ad.add 1 = ⟨ad.block, ad.off + 1, none⟩ := by
    have h := add_field ad 0 1 (by omega)
    rw [e0] at h
    exact h
  refine ⟨ad, c, rfl, by simpa using hc, ?_, ?_⟩
  · have := hcell 0 (.string x) rfl
    simpa [e0] using this
  · rw [← e1]
    refine ⟨if c = 1 then some ad else some (ad.add 1), c - 1, rfl, by simp at hc; omega, ?_, fun ad' ha hp => ?_⟩
    · have := Kd.C_drop (m := 1) (c := c) hC (by simp) hc
      simpa [show Kd.string.sz = 1 from rfl] using this
    · obtain ⟨cells, hcl⟩ := ht ad rfl (by simp)
      simp at hc
      rw [if_neg (by omega)] at ha
      cases ha
      exact ⟨cells, by rw [add_block]; exact hcl⟩
/-- What is gone and what is told so far. -/
structure M2St (B g mb o n : Nat) (f : Lit → Option Value) (G : Int → List ByteArray) (v : Value) (out : List S32) (W : World) : Prop where
  var : W.heap[g]? = some (.cells #[.map (some mb)] 71 (0, 0))
  outc : W.heap[o]? = some (.cells #[v] 25 (0, 0))
  base : B ≤ g ∧ B ≤ mb ∧ B ≤ o
  map : MapAt Try.prog 36 W mb n f
  rows : ∀ id u, f (.int .u64 id) = some u → TRow W u (G id)
  nil : ∀ id, f (.int .u64 id) = none → G id = []
  row : Kd.R k32 32 W B (fun _ => True) v out
section
variable {B g mb o n : Nat} {f : Lit → Option Value} {G : Int → List ByteArray} {v : Value} {out : List S32} {W W' : World}
theorem M2St.below (h : M2St B g mb o n f G v out W) (hb : Below W.heap.size W W') : M2St B g mb o n f G v out W' :=
  ⟨(hb.block g (blk_lt h.var)).trans h.var, (hb.block o (blk_lt h.outc)).trans h.outc, h.base, h.map.below hb, fun id u hu => (h.rows id u hu).below hb, h.nil, Kd.R_below h.row hb⟩
theorem M2St.drewN (h : M2St B g mb o n f G v out W) (m : Nat) : M2St B g mb o n f G v out (W.drewN m) := h.below (pw_below_drewN (Below.refl _ _) m)
theorem M2St.drew (h : M2St B g mb o n f G v out W) : M2St B g mb o n f G v out W.drew := h.below (below_drew (Below.refl _ _))
theorem M2St.get (h : M2St B g mb o n f G v out W) (id : Int) : TRow W ((f (.int .u64 id)).getD (.slice none 0 0)) (G id) := by
  cases hf : f (.int .u64 id) with
  | none => rw [h.nil _ hf]; exact TRow.nil W
  | some u => exact h.rows _ _ hf
theorem M2St.ne_out (h : M2St B g mb o n f G v out W) : some o ≠ v.ownBlock := Kd.R_ne h.row h.outc (by decide)
theorem M2St.push {W2 : World} {v1 : Value} {out1 : List S32} (h : M2St B g mb o n f G v out W) (hR : Kd.R k32 32 W2 B (fun _ => True) v1 out1) (hg : W.grownBy W2 v.ownBlock) : M2St B g mb o n f G v1 out1 (W2.setCell ⟨o, 0, none⟩ v1) := by
  have hgo : g ≠ o := blk_ne h.var h.outc (by decide)
  have hko : Kept W (W2.setCell ⟨o, 0, none⟩ v1) (fun k => v.ownBlock = some k ∨ k = o) := by
    exact Kept.setCell (S := fun k => v.ownBlock = some k ∨ k = o) (p := ⟨o, 0, none⟩) (Kept.of_grown hg (Kept.refl W _) (fun k hk => Or.inl (Or.inl hk))) (Or.inl (Or.inr rfl)) v1
  have ho2 := blk_grown h.outc hg h.ne_out
  refine ⟨blk_kept h.var hko (fun hk => ?_), by simpa using blk_set ho2 0 v1, h.base, h.map.block (hko.2 mb h.map.lt (fun hk => ?_)), fun id u hu => (h.rows id u hu).kept hko (fun k cells hc hk => ?_), h.nil, Kd.R_set hR ho2 (by decide) 0 _⟩
  · rcases hk with hk | hk
    · exact Kd.R_ne h.row h.var (by decide) hk.symm
    · exact hgo hk
  · rcases hk with hk | hk
    · exact h.map.ne_row h.row hk.symm
    · exact h.map.ne_cells h.outc hk.symm
  · rcases hk with hk | hk
    · exact Kd.R_ne h.row hc (by decide) hk.symm
    · subst hk
      have := h.outc.symm.trans hc
      cases this
theorem M2St.put (h : M2St B g mb o n f G v out W) {f1 : Lit → Option Value} {G1 : Int → List ByteArray} (hg : W.grownBy W' (some mb)) (hM : MapAt Try.prog 36 W' mb (n + 1) f1) (hr : ∀ id u, f1 (.int .u64 id) = some u → TRow W u (G1 id)) (hn : ∀ id, f1 (.int .u64 id) = none → G1 id = []) : M2St B g mb o (n + 1) f1 G1 v out W' := by
  have hk : Kept W W' (fun k => k = mb) := Kept.of_grown hg (Kept.refl W _) (fun k hk => by cases hk; exact Or.inl rfl)
  refine ⟨blk_kept h.var hk (h.map.ne_cells h.var), blk_kept h.outc hk (h.map.ne_cells h.outc), h.base, hM, fun id u hu => (hr id u hu).kept hk (fun k cells hc => h.map.ne_cells hc), hn, Kd.R_grown2 h.row rfl hg (fun k hk => by cases hk; exact h.map.ne_row h.row)⟩
end
/-- What is told of the paths, one behind the other. -/
def mv2 : List S51 → (Int → List ByteArray) → List S32 → List S32
  | [], _, out => out
  | c :: l, G, out => if c.f1 = 0 then match G c.f2 with | [] => mv2 l G out | x :: xs => mv2 l (fun id => if id = c.f2 then xs else G id) (out ++ [⟨x, c.f0⟩]) else mv2 l G out
structure M2Inv (w : World) (g mb o : Nat) (r : List S32) (W : World) (rest : List S51) : Prop where
  below : Below w.heap.size w W
  wf : ∀ c ∈ rest, (Lit.int .u64 c.f2).wf = true
  st : ∃ n f G v out, M2St w.heap.size g mb o n f G v out W ∧ n + rest.length ≤ 8000000000 ∧ out.length + rest.length ≤ 4000000000 ∧ mv2 rest G out = r
theorem M2Inv.drewN {w : World} {g mb o : Nat} {r : List S32} {W : World} {rest : List S51} (h : M2Inv w g mb o r W rest) (m : Nat) : M2Inv w g mb o r (W.drewN m) rest := by
  obtain ⟨h1, h2, n, f, G, v, out, h3, h4⟩ := h
  exact ⟨pw_below_drewN h1 m, h2, n, f, G, v, out, h3.drewN m, h4⟩
theorem M2Inv.skip {w : World} {g mb o : Nat} {r : List S32} {W' : World} {c : S51} {rest : List S51} {n : Nat} {f : Lit → Option Value} {G : Int → List ByteArray} {v : Value} {out : List S32} (hb : Below w.heap.size w W') (hw : ∀ x ∈ c :: rest, (Lit.int .u64 x.f2).wf = true) (h : M2St w.heap.size g mb o n f G v out W')
    (h1 : n + (c :: rest).length ≤ 8000000000) (h2 : out.length + (c :: rest).length ≤ 4000000000) (h3 : mv2 (c :: rest) G out = r) (hc : c.f1 = 0 → G c.f2 = []) : M2Inv w g mb o r W' rest := by
  refine ⟨hb, fun x hx => hw x (List.mem_cons_of_mem _ hx), n, f, G, v, out, h, by simp at h1; omega, by simp at h2; omega, ?_⟩
  rw [← h3, mv2]
  split
  · rename_i h0
    rw [hc h0]
  · rfl
theorem moves2_fin {w : World} {g mb o : Nat} {r : List S32} {W w3 : World} {c : S51} {rest : List S51} {n : Nat} {f : Lit → Option Value} {G : Int → List ByteArray} {u : Value} {out : List S32} {x : ByteArray} {xs : List ByteArray} {ad : Addr} {k cc : Nat}
    (hS : M2St w.heap.size g mb o n f G u (out ++ [⟨x, c.f0⟩]) W) (hb : Below w.heap.size w W) (hw : ∀ x ∈ c :: rest, (Lit.int .u64 x.f2).wf = true) (h1 : n + (c :: rest).length ≤ 8000000000) (h2 : out.length + (c :: rest).length ≤ 4000000000) (h3 : mv2 (c :: rest) G out = r)
    (h0 : c.f1 = 0) (hG : G c.f2 = x :: xs) (hv : (f (.int .u64 c.f2)).getD (.slice none 0 0) = .slice (some ad) k cc) (hk : xs.length + 1 = k)
    (hM : MapAt Try.prog 36 w3 mb (n + 1) (fun a => if a.sameKey (.int .u64 c.f2) = true then some (.slice (if cc = 1 then some ad else some ⟨ad.block, ad.off + 1, none⟩) (k - 1) (cc - 1)) else f a)) (hg : W.grownBy w3 (some mb)) : M2Inv w g mb o r w3 rest := by
  have hf' : ∀ id : Int, (if (Lit.int .u64 id).sameKey (.int .u64 c.f2) = true then some (Value.slice (if cc = 1 then some ad else some ⟨ad.block, ad.off + 1, none⟩) (k - 1) (cc - 1)) else f (.int .u64 id)) = if id = c.f2 then some (Value.slice (if cc = 1 then some ad else some ⟨ad.block, ad.off + 1, none⟩) (k - 1) (cc - 1)) else f (.int .u64 id) := fun id => by
    by_cases h : id = c.f2
    · subst h; rw [if_pos (WideAt.sameKey_self (a := .int .u64 c.f2) trivial), if_pos rfl]
    · rw [if_neg h, Maps.sameKey_ne (by simpa using h)]; rfl
  have hT := hS.get c.f2
  rw [hG, hv] at hT
  obtain ⟨ad', c', he, hc', hx, htl⟩ := hT.head
  injection he with e1 e2 e3
  cases e1
  subst e2 e3
  refine ⟨pw_below_grown hb _ hb.size hg (fun k hk => by cases hk; exact hS.base.2.1), fun x hx => hw x (List.mem_cons_of_mem _ hx), n + 1, _, fun id => if id = c.f2 then xs else G id, u, _, hS.put hg hM (fun id v hv => ?_) (fun id hv => ?_), by simp at h1; omega, by simp at h2 ⊢; omega, ?_⟩
  · rw [hf'] at hv
    by_cases h : id = c.f2
    · rw [if_pos h] at hv ⊢
      cases hv
      exact htl
    · rw [if_neg h] at hv ⊢
      exact hS.rows _ _ hv
  · rw [hf'] at hv
    by_cases h : id = c.f2
    · rw [if_pos h] at hv
      cases hv
    · rw [if_neg h] at hv ⊢
      exact hS.nil _ hv
  · rw [← h3, mv2, if_pos h0, hG]
set_option maxHeartbeats 4000000 in
set_option maxRecDepth 100000 in
theorem moves2_calls (w : World) (g mb o : Nat) (r : List S32) (W : World) (c : S51) (l : List S51) (hI : M2Inv w g mb o r W (c :: l)) :
    Calls Try.prog 31 #[.agg #[.string c.f0, .int .u64 c.f1, .int .u64 c.f2], .pointer (some ⟨g, 0, none⟩), .pointer (some ⟨o, 0, none⟩)] W fun e w' => e = .returned (.tuple #[]) ∧ M2Inv w g mb o r w' l := by
  obtain ⟨hB, hwf, n, f, G, v, out, hS, hn, hol, hr⟩ := hI
  obtain ⟨w1, hw1⟩ : ∃ w1, W.alloc (.cells #[.string c.f0, .int .u64 c.f1, .int .u64 c.f2] 51) = w1 := ⟨_, rfl⟩
  have hbx : w1.heap[W.heap.size]? = some (.cells #[.string c.f0, .int .u64 c.f1, .int .u64 c.f2] 51 (0, 0)) := by rw [← hw1]; exact heap_alloc_new W _
  have HBX := Aside0.mk hbx
  have hb1 : Below W.heap.size W w1 := by rw [← hw1]; exact below_alloc (Below.refl _ _) _
  have HB1 : Aside0 (Below w.heap.size w w1) := ⟨below_then hB hB.size hb1⟩
  have HS := Aside0.mk (hS.below hb1)
  have HM := Aside0.mk HS.out.map
  have HW : Aside0 ((Lit.int .u64 c.f2).wf = true) := ⟨hwf c (List.mem_cons_self ..)⟩
  have HWF := Aside0.mk hwf
  have HN := Aside0.mk hn
  have HOL := Aside0.mk hol
  have HR := Aside0.mk hr
  have hg0 : w1.cell? ⟨g, 0, none⟩ = some (.map (some mb)) := (blk_cell HS.out.var 0).trans rfl
  have ho0 : w1.cell? ⟨o, 0, none⟩ = some v := (blk_cell HS.out.outc 0).trans rfl
  have hc0 : w1.cell? ⟨W.heap.size, 0, none⟩ = some (.string c.f0) := (blk_cell hbx 0).trans rfl
  have hc1 : w1.cell? ⟨W.heap.size, 1, none⟩ = some (.int .u64 c.f1) := (blk_cell hbx 1).trans rfl
  have hc2 : w1.cell? ⟨W.heap.size, 2, none⟩ = some (.int .u64 c.f2) := (blk_cell hbx 2).trans rfl
  obtain ⟨v0, hv0⟩ : ∃ v0, (f (.int .u64 c.f2)).getD (.slice none 0 0) = v0 := ⟨_, rfl⟩
  have HT : Aside0 (TRow w1 v0 (G c.f2)) := ⟨hv0 ▸ HS.out.get c.f2⟩
  have HV := Aside0.mk hv0
  clear hbx hB hwf hS hn hol hr hb1 hv0
  by_cases h0 : c.f1 = 0
  · have hq : (c.f1 == 0) = true := by simpa using h0
    have H0 := Aside0.mk h0
    clear h0
    cases hG : G c.f2 with
    | nil =>
      have HG := Aside0.mk hG
      clear hG
      obtain ⟨A, cc, hv, _⟩ := HT.out
      rw [HG.out] at hv
      subst hv
      go_enter Try.func31, Try.ntmps31
      go_wp2_with ((at_lookup; refine MapAt.wp_look HM.out rfl _ _ 71 rfl law36 Try.underlying71 (zero34 _) rfl _ _ rfl (key36 HW.out) _ HV.out ?_))
      go_end0
      exact ⟨rfl, M2Inv.skip HB1.out HWF.out HS.out HN.out HOL.out HR.out (fun _ => HG.out)⟩
    | cons x xs =>
      have HG := Aside0.mk hG
      clear hG
      obtain ⟨ad, cc, hv, hcc, hx, htl⟩ := TRow.head (HG.out ▸ HT.out)
      obtain ⟨k, hk⟩ : ∃ k, xs.length + 1 = k := ⟨_, rfl⟩
      rw [hk] at hv hcc
      subst hv
      have HK := Aside0.mk hk
      have HTL := Aside0.mk htl
      have hkc : k ≤ cc := hcc
      have hk0 : 0 < k := by omega
      have hk1 : decide ((0 : Int) < (k : Int)) = true := by simpa using hk0
      have HLEN : Aside0 (out.length ≤ 4000000000) := ⟨by have := HOL.out; simp at this; omega⟩
      obtain ⟨Ao, co, ev⟩ := Kd.R_slice HS.out.row
      subst ev
      have hf1 : w1.frozen? ⟨o, 0, none⟩ = false := blk_frozen HS.out.outc 0
      have hoa : (w1.alloc (.cells #[.string x, .string c.f0] 32)).cell? ⟨o, 0, none⟩ = some (.slice Ao out.length co) := (World.cell?_alloc_lt _ _ _ (World.block_lt_of_cell? _ _ ho0)).trans ho0
      clear htl hk hcc
      go_enter Try.func31, Try.ntmps31
      go_upto_region 3 with ((at_lookup; refine MapAt.wp_look HM.out rfl _ _ 71 rfl law36 Try.underlying71 (zero34 _) rfl _ _ rfl (key36 HW.out) _ HV.out ?_))
      go_cut [25] (fun s25 wx => ∃ v1 : Value, s25 = v1 ∧ Aside0 (M2St w.heap.size g mb o n f G v1 (out ++ [⟨x, c.f0⟩]) wx) ∧ Aside0 (Below w.heap.size w wx) ∧ Aside0 (wx.heap[W.heap.size]? = some (.cells #[.string c.f0, .int .u64 c.f1, .int .u64 c.f2] 51 (0, 0))))
      case first =>
        go_region_law (refine Kd.R_append_step k32 (w0 := w) (W := w1.drew) w.heap.size (by rfl) (.tmp 17) (.tmp 24) 25 32 (.agg #[(.string ⟨#[]⟩), (.string ⟨#[]⟩)]) 32 rfl Try.underlying25 info32 rfl (by decide) (by omega) (.slice Ao out.length co) out (⟨x, c.f0⟩ : S32) [.string x, .string c.f0] (fun _ => True) (fun _ => False) rfl rfl ?aP (fun _ hk => hk.elim) ?aF ?aO ?aB ?aS ?aL ?_; (case aP => exact k32_mkM _ _ _ (⟨x, c.f0⟩ : S32)); (case aF => exact fun _ _ => trivial); (case aO => exact HS.out.drew.row); (case aB => exact below_drew HB1.out); (case aS => exact HB1.out.size); (case aL => have := HLEN.out; omega); intro v1 w2 ho hb hg hat; obtain ⟨A1, c1, e1⟩ := Kd.R_slice ho; subst e1; have HO1 := Aside0.mk ho; have HB2 := Aside0.mk hb; have HG1 := Aside0.mk hg; have hb1 : w2.cell? ⟨o, 0, none⟩ = some (.slice Ao out.length co) := (blk_cell (blk_grown HS.out.drew.outc hg HS.out.ne_out) 0).trans rfl; have hf2 : w2.frozen? ⟨o, 0, none⟩ = false := blk_frozen (blk_grown HS.out.drew.outc hg HS.out.ne_out) 0; clear ho hb hg hat)
        all_goals
          go_wp2
          go_meet
          case rel =>
            have hO := HO1.out
            rw [show (out ++ [(⟨x, c.f0⟩ : S32)]).length = out.length + 1 by simp] at hO
            have hX : w1.drew.heap[W.heap.size]? = some (.cells #[.string c.f0, .int .u64 c.f1, .int .u64 c.f2] 51 (0, 0)) := HBX.out
            exact ⟨_, rfl, ⟨HS.out.drew.push hO HG1.out⟩, ⟨HB2.out.setCell HS.out.base.2.2 _⟩, ⟨blk_far (p := ⟨o, 0, none⟩) (blk_grown hX HG1.out (Kd.R_ne HS.out.row HBX.out (by decide))) (blk_ne HBX.out HS.out.outc (by decide)) _⟩⟩
      case rest =>
        obtain ⟨v1, rfl, HS3, HB3, HX3⟩ := hcut
        clear hg0 ho0 hc0 hc1 hc2 hx hf1 hoa
        go_upto_region 4 with (fail)
        refine start_ (n := 6) (S := fun w' => w'.cell? ⟨g, 0, none⟩ = some (.map (some mb)) ∧ w'.cell? ⟨W.heap.size, 2, none⟩ = some (.int .u64 c.f2)) (ds := [5]) #[false, false, false, false, false, false] (by kernel_rfl) rfl rfl ⟨(blk_cell HS3.out.var 0).trans rfl, (blk_cell HX3.out 2).trans rfl⟩ (fun hHeld => ?_)
        refine take_ (i := 0) (N := (some 26)) (v := ?_) (a' := ?_) #[true, false, false, false, false, false] rfl rfl (by kernel_rfl) (fun _ _ _ h => h) (Or.inl ⟨by rfl, ?_⟩) hHeld ?_ ?_
        rotate_left
        · intro w' s0
          (try dsimp only at s0)
          (try obtain ⟨_, s1, s2, s3, s4, s5, s6⟩ := s0)
          (try obtain ⟨_, s1, s2, s3, s4, s5⟩ := s0)
          (try obtain ⟨_, s1, s2, s3, s4⟩ := s0)
          go_simp
          first | done | (with_reducible rfl)
        rotate_left
        · simp only [Act.put, List.setIfInBounds_toArray, List.set_cons_zero, List.set_cons_succ, i64_w, i32_w]
          rfl
        refine pure_ (i := 1) (N := (some 27)) (v := ?_) (a' := ?_) #[true, true, false, false, false, false] rfl rfl (by kernel_rfl) (fun _ _ _ h => h) (Or.inl ⟨by rfl, ?_⟩) ?_ ?_
        rotate_left
        · intro w'
          go_simp
          first | done | (with_reducible rfl)
        rotate_left
        · simp only [Act.put, List.setIfInBounds_toArray, List.set_cons_zero, List.set_cons_succ, i64_w, i32_w]
          rfl
        refine take_ (i := 2) (N := (some 28)) (v := ?_) (a' := ?_) #[true, true, true, false, false, false] rfl rfl (by kernel_rfl) (fun _ _ _ h => h) (Or.inl ⟨by rfl, ?_⟩) hHeld ?_ ?_
        rotate_left
        · intro w' s0
          (try dsimp only at s0)
          (try obtain ⟨_, s1, s2, s3, s4, s5, s6⟩ := s0)
          (try obtain ⟨_, s1, s2, s3, s4, s5⟩ := s0)
          (try obtain ⟨_, s1, s2, s3, s4⟩ := s0)
          go_simp
          first | done | (with_reducible rfl)
        rotate_left
        · simp only [Act.put, List.setIfInBounds_toArray, List.set_cons_zero, List.set_cons_succ, i64_w, i32_w]
          rfl
        refine pure_ (i := 3) (N := (some 29)) (v := ?_) (a' := ?_) #[true, true, true, true, false, false] rfl rfl (by kernel_rfl) (fun _ _ _ h => h) (Or.inl ⟨by rfl, ?_⟩) ?_ ?_
        rotate_left
        · intro w'
          go_simp
          first | done | (with_reducible rfl)
        rotate_left
        · simp only [Act.put, List.setIfInBounds_toArray, List.set_cons_zero, List.set_cons_succ, i64_w, i32_w]
          rfl
        refine take_ (i := 4) (N := (some 30)) (v := ?_) (a' := ?_) #[true, true, true, true, true, false] rfl rfl (by kernel_rfl) (fun _ _ _ h => h) (Or.inl ⟨by rfl, ?_⟩) hHeld ?_ ?_
        rotate_left
        · intro w' s0
          go_simp
          rw [if_pos (show (1 : Int) ≤ (k : Int) by omega)]
        rotate_left
        · simp only [Act.put, List.setIfInBounds_toArray, List.set_cons_zero, List.set_cons_succ, i64_w, i32_w]
          rfl
        refine last_ (i := 5) (N := none) #[true, true, true, true, true, true] rfl rfl (by kernel_rfl) (by decide) (fun K hK => ?_)
        obtain ⟨w3, hrun, HM3, HG3⟩ := HS3.out.drew.map.store law36 Try.underlying71 (by have := HN.out; simp at this; unfold maxLen; omega) (key36 HW.out) trivial (.slice (if cc = 1 then some ad else some ⟨ad.block, ad.off + 1, none⟩) (k - 1) (cc - 1))
        have HM3 := Aside0.mk HM3
        have HG3 := Aside0.mk HG3
        refine skip_ (w1 := w3) (by rfl) rfl ?_ ?_
        · go_simp
        refine hK.out _ _ ?_
        clear hK K
        refine done_ (by kernel_rfl) ?_

        go_wp2
        all_goals go_end0
        all_goals exact ⟨rfl, moves2_fin HS3.out.drew HB3.out.drew HWF.out HN.out HOL.out HR.out H0.out HG.out HV.out HK.out HM3.out HG3.out⟩
  · have hq : (c.f1 == 0) = false := by simpa using h0
    have H0 := Aside0.mk h0
    clear h0
    obtain ⟨A, cc, hv, _⟩ := HT.out
    subst hv
    go_enter Try.func31, Try.ntmps31
    go_wp2_with ((at_lookup; refine MapAt.wp_look HM.out rfl _ _ 71 rfl law36 Try.underlying71 (zero34 _) rfl _ _ rfl (key36 HW.out) _ HV.out ?_))
    go_end0
    exact ⟨rfl, M2Inv.skip HB1.out HWF.out HS.out HN.out HOL.out HR.out (fun h => absurd h H0.out)⟩
theorem mg_length : ∀ (d : Nat) (a b : List S38), (mg d a b).length ≤ d
  | 0, _, _ => by simp [mg]
  | d + 1, [], [] => by simp [mg]
  | d + 1, x :: a, [] => by have := mg_length d a []; simp [mg]; omega
  | d + 1, [], y :: b => by have := mg_length d [] b; simp [mg]; omega
  | d + 1, x :: a, y :: b => by
    have h1 := mg_length d a (y :: b)
    have h2 := mg_length d (x :: a) b
    have h3 := mg_length d a b
    rw [mg]
    split
    · simp; omega
    · split <;> (simp; omega)
/-- What holds of 0 and of both trees' blobs holds of what is handed over. -/
theorem mg_all {P : Int → Prop} (h0 : P 0) : ∀ (d : Nat) (a b : List S38), (∀ x ∈ a, P x.f1) → (∀ x ∈ b, P x.f1) → ∀ c ∈ mg d a b, P c.f1 ∧ P c.f2
  | 0, _, _ => by simp [mg]
  | d + 1, [], [] => by simp [mg]
  | d + 1, x :: a, [] => fun ha hb c hc => by
    rw [mg] at hc
    rcases List.mem_cons.mp hc with rfl | hc
    · exact ⟨ha x (List.mem_cons_self ..), h0⟩
    · exact mg_all h0 d a [] (fun y hy => ha y (List.mem_cons_of_mem _ hy)) hb c hc
  | d + 1, [], y :: b => fun ha hb c hc => by
    rw [mg] at hc
    rcases List.mem_cons.mp hc with rfl | hc
    · exact ⟨h0, hb y (List.mem_cons_self ..)⟩
    · exact mg_all h0 d [] b ha (fun y hy => hb y (List.mem_cons_of_mem _ hy)) c hc
  | d + 1, x :: a, y :: b => fun ha hb c hc => by
    have hx := ha x (List.mem_cons_self ..)
    have hy := hb y (List.mem_cons_self ..)
    have ha' : ∀ z ∈ a, P z.f1 := fun z hz => ha z (List.mem_cons_of_mem _ hz)
    have hb' : ∀ z ∈ b, P z.f1 := fun z hz => hb z (List.mem_cons_of_mem _ hz)
    rw [mg] at hc
    split at hc
    · rcases List.mem_cons.mp hc with rfl | hc
      · exact ⟨hx, h0⟩
      · exact mg_all h0 d a (y :: b) ha' hb c hc
    · split at hc
      · rcases List.mem_cons.mp hc with rfl | hc
        · exact ⟨h0, hy⟩
        · exact mg_all h0 d (x :: a) b ha hb' c hc
      · rcases List.mem_cons.mp hc with rfl | hc
        · exact ⟨hx, hy⟩
        · exact mg_all h0 d a b ha' hb' c hc
def blobsOk (l : List S38) : Bool := l.all (fun x => (Lit.int .u64 x.f1).wf)
theorem blobsOk_mem {l : List S38} (h : blobsOk l = true) : ∀ x ∈ l, (Lit.int .u64 x.f1).wf = true := fun x hx => List.all_eq_true.mp h x hx
def movesOf (l0 l1 : List S38) : List S32 := mv2 (mg (l0.length + l1.length) l0 l1) ((mg (l0.length + l1.length) l0 l1).foldl addG (fun _ => [])) []
def tree_Moves.f (_k : Nat) (l0 l1 : List S38) : Option (List S32) := if l0.length + l1.length ≤ 4000000000 ∧ blobsOk l0 = true ∧ blobsOk l1 = true then some (movesOf l0 l1) else none
theorem tree_Moves.mono : ∀ a0 a1 k, LeO (tree_Moves.f k a0 a1) (tree_Moves.f (k + 1) a0 a1) := fun a0 a1 k => LeO.refl _
theorem MInv.next {w : World} {g mb : Nat} {GF : Int → List ByteArray} {W W' : World} {L : List S51} (h : MInv w g mb GF W []) (hw : W.alloc (.cells #[.slice none 0 0] 25) = W') (hwf : ∀ c ∈ L, (Lit.int .u64 c.f2).wf = true) (hL : L.length ≤ 4000000000) : M2Inv w g mb W.heap.size (mv2 L GF []) W' L := by
  obtain ⟨h1, h2, h3, h4, n, f, G, a1, a2, a3, a4, a5, a6, a7⟩ := h
  have hb : Below W.heap.size W W' := by rw [← hw]; exact below_alloc (Below.refl _ _) _
  have e : G = GF := a3
  subst e
  exact ⟨below_then h3 h3.size hb, hwf, n, f, G, .slice none 0 0, [], ⟨(hb.block g (blk_lt h1)).trans h1, by rw [← hw]; exact heap_alloc_new W _, ⟨h2.1, h2.2, h3.size⟩, a1.below hb, fun id u hu => TRow.of_R (Kd.R_below (a5 id u hu) hb), a6, Kd.R_nil _ _ _ _ _⟩, by simp at a2; omega, by simpa using hL, rfl⟩
set_option maxHeartbeats 4000000 in
set_option maxRecDepth 100000 in
theorem tree_Moves.calls (k : Nat) (A0 : Option Addr) (c0 : Nat) (l0 : List S38) (A1 : Option Addr) (c1 : Nat) (l1 : List S38) (r : List S32) (w : World)
    (hr0 : Kd.C k38 w A0 l0.length l0) (hc0 : l0.length ≤ c0) (hr1 : Kd.C k38 w A1 l1.length l1) (hc1 : l1.length ≤ c1) (h : tree_Moves.f k l0 l1 = some r) :
    Calls Try.prog 10 #[.slice A0 l0.length c0, .slice A1 l1.length c1] w fun e w' => ∃ v0_ : Value, e = .returned (v0_) ∧ Kd.R k32 32 w' w.heap.size (fun _ => True) v0_ r ∧ Below w.heap.size w w' := by
  have HR0 := Aside0.mk hr0
  have HR1 := Aside0.mk hr1
  have HC0 := Aside0.mk hc0
  have HC1 := Aside0.mk hc1
  unfold tree_Moves.f at h
  split at h
  case isFalse => cases h
  rename_i hg
  cases h
  have hml := mg_length (l0.length + l1.length) l0 l1
  have hwf := mg_all (P := fun i => (Lit.int .u64 i).wf = true) rfl (l0.length + l1.length) l0 l1 (blobsOk_mem hg.2.1) (blobsOk_mem hg.2.2)
  obtain ⟨G, hG⟩ : ∃ G, (mg (l0.length + l1.length) l0 l1).foldl addG (fun _ => []) = G := ⟨_, rfl⟩
  obtain ⟨w1, hw1⟩ : ∃ w1, w.alloc (.map #[] 0) = w1 := ⟨_, rfl⟩
  obtain ⟨w2, hw2⟩ : ∃ w2, w1.alloc (.cells #[.map none] 71) = w2 := ⟨_, rfl⟩
  have HB1 : Aside0 (Below w.heap.size w w1) := ⟨by rw [← hw1]; exact below_alloc (Below.refl _ _) _⟩
  have HB12 : Aside0 (Below w1.heap.size w1 w2) := ⟨by rw [← hw2]; exact below_alloc (Below.refl _ _) _⟩
  have HB2 : Aside0 (Below w.heap.size w w2) := ⟨below_then HB1.out HB1.out.size HB12.out⟩
  have hg2 : w2.heap[w1.heap.size]? = some (.cells #[.map none] 71 (0, 0)) := by rw [← hw2]; exact heap_alloc_new w1 _
  obtain ⟨w3, hw3⟩ : ∃ w3, w2.setCell ⟨w1.heap.size, 0, none⟩ (.map (some w.heap.size)) = w3 := ⟨_, rfl⟩
  have hM1 : MapAt Try.prog 36 w1 w.heap.size 0 (fun _ => none) := by rw [← hw1]; exact MapAt.made w Try.prog 36
  have hlt : w.heap.size < w1.heap.size := hM1.lt
  have HB3 : Aside0 (Below w.heap.size w w3) := ⟨by rw [← hw3]; exact HB2.out.setCell HB1.out.size _⟩
  have hg3 : w3.heap[w1.heap.size]? = some (.cells #[.map (some w.heap.size)] 71 (0, 0)) := by rw [← hw3]; simpa using blk_set hg2 0 (.map (some w.heap.size))
  have HM3 : Aside0 (MapAt Try.prog 36 w3 w.heap.size 0 (fun _ => none)) := ⟨(hM1.below HB12.out).block (by rw [← hw3]; exact Below.heap_setCell w2 _ _ _ (by show w.heap.size ≠ w1.heap.size; omega))⟩
  have HI : Aside0 (MInv w w1.heap.size w.heap.size G w3 (mg (l0.length + l1.length) l0 l1)) := ⟨⟨hg3, ⟨HB1.out.size, Nat.le_refl _⟩, HB3.out, fun c hc => (hwf c hc).1, 0, _, fun _ => [], HM3.out, by omega, hG, fun id => Nat.le_refl _, fun id v hv => (by cases hv), fun id _ => rfl, fun id id' v v' _ hv => (by cases hv)⟩⟩
  have HW := Aside0.mk hwf
  have HG := Aside0.mk hg.1
  have HML := Aside0.mk hml
  have HGE := Aside0.mk hG
  have HLT := Aside0.mk hlt
  have hgc : w2.cell? ⟨w1.heap.size, 0, none⟩ = some (.map none) := (blk_cell hg2 0).trans rfl
  have hgf : w2.frozen? ⟨w1.heap.size, 0, none⟩ = false := blk_frozen hg2 0
  clear hr0 hr1 hc0 hc1 hg hml hwf hG hg2 hg3 hM1 hlt
  have tok1 : True := trivial
  have hmm := @run_makeMap Try.prog
  go_enter Try.func10, Try.ntmps10
  go_wp2_with (first
    | (have _t := tok1; clear _t; go_at_call 29; refine (merge 30 (enters_of Try.func30 (by kernel_rfl) rfl) w #[.pointer (some ⟨w1.heap.size, 0, none⟩)] (fun W l => MInv w w1.heap.size w.heap.size G W l) (fun W l h => h.below) (fun W l n h => h.drewN n) (fun W c l h => moves1_calls w _ _ _ W c l h) A0 A1 c0 c1 l0 l1 w3 HR0.out HR1.out HC0.out HC1.out HI.out).mono ?_; rintro e w4 ⟨rfl, hi⟩; have HI4 := Aside0.mk hi; clear hi; clear hgc hgf hmm; obtain ⟨w5, hw5⟩ : ∃ w5, w4.alloc (.cells #[.slice none 0 0] 25) = w5 := ⟨_, rfl⟩; have HI5 := Aside0.mk (MInv.next (L := mg (l0.length + l1.length) l0 l1) HI4.out hw5 (fun c hc => (HW.out c hc).2) (by have := HG.out; have := HML.out; omega)); clear tok1)
    | (go_at_call 29; refine (merge 31 (enters_of Try.func31 (by kernel_rfl) rfl) w #[.pointer (some ⟨w1.heap.size, 0, none⟩), .pointer (some ⟨w4.heap.size, 0, none⟩)] (fun W l => M2Inv w w1.heap.size w.heap.size w4.heap.size (mv2 (mg (l0.length + l1.length) l0 l1) G []) W l) (fun W l h => h.below) (fun W l n h => h.drewN n) (fun W c l h => moves2_calls w _ _ _ _ W c l h) A0 A1 c0 c1 l0 l1 w5 HR0.out HR1.out HC0.out HC1.out HI5.out).mono ?_; rintro e w6 ⟨rfl, hi⟩; obtain ⟨hB6, _, n6, f6, G6, v6, out6, hS6, _, _, he6⟩ := hi; obtain ⟨Ao, co, ev⟩ := Kd.R_slice hS6.row; subst ev; have HS6 := Aside0.mk hS6; have HB6 := Aside0.mk hB6; have HE6 := Aside0.mk he6; have ho6 : w6.cell? ⟨w4.heap.size, 0, none⟩ = some (.slice Ao out6.length co) := (blk_cell HS6.out.outc 0).trans rfl; clear hS6 hB6 he6))
  go_ret
  refine ⟨_, rfl, ?_, HB6.out⟩
  have he : out6 = _ := HE6.out
  rw [movesOf, HGE.out, ← he]
  exact HS6.out.row

/-! ### object_Find: function 34 -/
def object_Find.l0 : Nat → ByteArray → List (S38) → Int → Int → Option (Int × Bool)
  | 0, _, _, _, _ => none
  | k + 1, x1, x8, x9, x10 => if x10 < x9 then (if 0 ≤ x10 then (if x10 < (x8.length : Int) then (if ((rd_T38 x8 x10).f0).toList = x1.toList then (some ((rd_T38 x8 x10).f1, true)) else (object_Find.l0 k x1 x8 x9 (wrap64 (x10 + 1)))) else (none)) else (none)) else (some (0, false))
def object_Find.f (k : Nat) (l0 : List (S38)) (a1 : ByteArray) : Option (Int × Bool) := object_Find.l0 k a1 l0 (l0.length : Int) 0
theorem object_Find.mono_l : ∀ k, (∀ y0 y1 y2 y3, LeO (object_Find.l0 k y0 y1 y2 y3) (object_Find.l0 (k + 1) y0 y1 y2 y3))
  | 0 => fun _ _ _ _ r h => by simp [object_Find.l0] at h
  | k + 1 => by
    have ih0 := object_Find.mono_l k
    · intro y0 y1 y2 y3
      unfold object_Find.l0
      repeat' first
      | (with_reducible exact ih0 _ _ _ _)
      | (with_reducible exact LeO.refl _)
      | (with_reducible exact LeO.none _)
      | (with_reducible refine LeO.ite ?_ ?_)
      | (with_reducible refine LeO.bind ?_ (fun _ => ?_))
      | exact ih0 _ _ _ _
      | exact LeO.none _
      | refine LeO.ite ?_ ?_
      | refine LeO.bind ?_ (fun _ => ?_)
theorem object_Find.mono : ∀ a0 a1 k, LeO (object_Find.f k a0 a1) (object_Find.f (k + 1) a0 a1) := by
  intro a0 a1 k
  have ih0 := object_Find.mono_l k
  unfold object_Find.f
  repeat' first
      | (with_reducible exact ih0 _ _ _ _)
      | (with_reducible exact LeO.refl _)
      | (with_reducible exact LeO.none _)
      | (with_reducible refine LeO.ite ?_ ?_)
      | (with_reducible refine LeO.bind ?_ (fun _ => ?_))
      | exact ih0 _ _ _ _
      | exact LeO.none _
      | refine LeO.ite ?_ ?_
      | refine LeO.bind ?_ (fun _ => ?_)
set_option maxHeartbeats 8000000 in
set_option maxRecDepth 100000 in
theorem object_Find.calls (k : Nat) (A0 : Option Addr) (c0 : Nat) (l0 : List (S38)) (a1 : ByteArray) (r1 : Int) (r2 : Bool) (w : World) (hr0 : Kd.C k38 w A0 l0.length l0) (hc0 : l0.length ≤ c0) (h : object_Find.f k l0 a1 = some (r1, r2)) :
    Calls Try.prog 34 #[.slice A0 l0.length c0, .string a1] w fun e w' => e = .returned (.tuple #[.int .u64 r1, .bool r2]) ∧ Below w.heap.size w w' := by
  have hu38 := Try.underlying38
  have HR0 := Aside0.mk hr0
  have HC0 := Aside0.mk hc0
  clear hr0 hc0
  have HB := Aside0.mk (Below.refl w.heap.size w)
  have H : (object_Find.l0 k a1 l0 (l0.length : Int) 0) = some (r1, r2) := h
  clear h
  have H' := Aside0.mk H
  clear H
  go_enter Try.func34, Try.ntmps34
  go_wp2
  go_loopg [10] k (fun kq v10 w' => ∃ (x10_1 : Int), v10 = .int .i64 x10_1 ∧ Aside0 (object_Find.l0 kq a1 l0 (l0.length : Int) x10_1 = some (r1, r2)) ∧ Aside0 (kq ≤ k) ∧ Aside0 (Below w.heap.size w w'))
  case atStart => exact ⟨(0), (by first | rfl | (simp; done) | (simp [*]; done)), H', ⟨Nat.le_refl _⟩, ⟨by repeat (first | (with_reducible first | exact HB.out | apply below_alloc | apply pw_below_drewN | apply below_drew1) | exact HB.out)⟩⟩
  case round =>
    clear H'
    try clear p2
    obtain ⟨x10_1, rfl, HA, HK1, HB⟩ := hrel
    cases gk with
    | zero => exact absurd HA.out (by simp [object_Find.l0])
    | succ k1 =>
      have H := HA.out
      clear HA
      simp only [object_Find.l0] at H
      by_cases c3 : x10_1 < (l0.length : Int)
      · rw [if_pos c3] at H
        have c3b0 : decide (x10_1 < (l0.length : Int)) = true := decide_eq_true c3
        clear c3
        by_cases c4 : 0 ≤ x10_1
        · rw [if_pos c4] at H
          have c4b0 : decide (0 ≤ x10_1) = true := decide_eq_true c4
          clear c4
          by_cases c5 : x10_1 < (l0.length : Int)
          · rw [if_pos c5] at H
            have c5b0 : decide (x10_1 < (l0.length : Int)) = true := decide_eq_true c5
            clear c5
            by_cases c6 : ((rd_T38 l0 x10_1).f0).toList = a1.toList
            · rw [if_pos c6] at H
              have c6b0 : (((rd_T38 l0 x10_1).f0).toList == a1.toList) = true := beq_iff_eq.mpr c6
              have c6b1 : (((rd_T38 l0 x10_1).f0).toList != a1.toList) = false := bne_eq_false_iff_eq.mpr c6
              clear c6
              simp only [Option.some.injEq, Prod.mk.injEq] at H
              obtain ⟨rfl, rfl⟩ := H
              have p111 : 0 ≤ (x10_1 : Int) := of_decide_eq_true (by first | (with_reducible assumption) | assumption)
              have q111 : x10_1 < (l0.length : Int) := of_decide_eq_true (by first | (with_reducible assumption) | assumption)
              obtain ⟨ad111, e111, hx111_0, hx111_1⟩ := at_T38 HR0.out x10_1 p111 q111
              cases e111
              try replace hx111_0 := (HB.out.cell (World.block_lt_of_cell? w _ hx111_0)).trans hx111_0
              try replace hx111_1 := (HB.out.cell (World.block_lt_of_cell? w _ hx111_1)).trans hx111_1
              replace p111 := eq_true p111
              replace q111 := eq_true q111
              go_wp2_with (first | ((with_reducible refine gate_dst (N := 7) rfl ?_); refine box_event ?hg (N := 7) ?hd (cs := #[.string (⟨#[]⟩ : ByteArray), .int .u64 0]) (t := 38) ?hr ?_; (case hd => rfl); (case hg => rfl); (case hr => first | (go_simp; done) | (go_simp; rfl)); intro gb112 hg w7 hbox hb; have n0_ := Aside0.mk (below_step (by repeat (first | (with_reducible first | exact HB.out | apply below_alloc | apply pw_below_drewN | apply below_drew1) | exact HB.out)) hb); have n1_ := Aside0.mk (hbox); have n2_ := Aside0.mk ((by rw [hg]; exact (below_size (by repeat (first | (with_reducible first | exact HB.out | apply below_alloc | apply pw_below_drewN | apply below_drew1) | exact HB.out))) : w.heap.size ≤ gb112)); have n3_ := Aside0.mk ((by rw [hg]; exact (below_size (by repeat (first | (with_reducible first | exact HB.out | apply below_alloc | apply pw_below_drewN | apply below_drew1) | exact HB.out))) : w.heap.size ≤ gb112)); clear HB; have HB := n0_; have BK112 := n1_; have GW112 := n2_; have GE112 := n3_; clear n0_ n1_ n2_ n3_; clear hb hbox hg; have hcz8_0 : w7.cell? ⟨gb112, 0, none⟩ = some (.string (⟨#[]⟩ : ByteArray)) := (blk_cell BK112.out 0).trans rfl; have hcz8_1 : w7.cell? ⟨gb112, 1, none⟩ = some (.int .u64 0) := (blk_cell BK112.out 1).trans rfl; have hfz8_0 := blk_frozen BK112.out 0; have hfz8_1 := blk_frozen BK112.out 1))
              go_ret2
              exact ⟨by first | rfl | (simp [errW_none, errW_some] <;> rfl) | (simp [*, errW_none, errW_some] <;> rfl), by repeat (first | (with_reducible first | exact HB.out | apply below_alloc | apply pw_below_drewN | apply below_drew1 | refine below_set ?_ GE112.out) | exact HB.out)⟩
            · rw [if_neg c6] at H
              have c6b0 : (((rd_T38 l0 x10_1).f0).toList == a1.toList) = false := beq_eq_false_iff_ne.mpr c6
              have c6b1 : (((rd_T38 l0 x10_1).f0).toList != a1.toList) = true := bne_iff_ne.mpr c6
              have H' := Aside0.mk H
              clear H
              have p111 : 0 ≤ (x10_1 : Int) := of_decide_eq_true (by first | (with_reducible assumption) | assumption)
              have q111 : x10_1 < (l0.length : Int) := of_decide_eq_true (by first | (with_reducible assumption) | assumption)
              obtain ⟨ad111, e111, hx111_0, hx111_1⟩ := at_T38 HR0.out x10_1 p111 q111
              cases e111
              try replace hx111_0 := (HB.out.cell (World.block_lt_of_cell? w _ hx111_0)).trans hx111_0
              try replace hx111_1 := (HB.out.cell (World.block_lt_of_cell? w _ hx111_1)).trans hx111_1
              replace p111 := eq_true p111
              replace q111 := eq_true q111
              go_wp2_with (first | ((with_reducible refine gate_dst (N := 7) rfl ?_); refine box_event ?hg (N := 7) ?hd (cs := #[.string (⟨#[]⟩ : ByteArray), .int .u64 0]) (t := 38) ?hr ?_; (case hd => rfl); (case hg => rfl); (case hr => first | (go_simp; done) | (go_simp; rfl)); intro gb112 hg w9 hbox hb; have n0_ := Aside0.mk (below_step (by repeat (first | (with_reducible first | exact HB.out | apply below_alloc | apply pw_below_drewN | apply below_drew1) | exact HB.out)) hb); have n1_ := Aside0.mk (hbox); have n2_ := Aside0.mk ((by rw [hg]; exact (below_size (by repeat (first | (with_reducible first | exact HB.out | apply below_alloc | apply pw_below_drewN | apply below_drew1) | exact HB.out))) : w.heap.size ≤ gb112)); have n3_ := Aside0.mk ((by rw [hg]; exact (below_size (by repeat (first | (with_reducible first | exact HB.out | apply below_alloc | apply pw_below_drewN | apply below_drew1) | exact HB.out))) : w.heap.size ≤ gb112)); clear HB; have HB := n0_; have BK112 := n1_; have GW112 := n2_; have GE112 := n3_; clear n0_ n1_ n2_ n3_; clear hb hbox hg; have hcz10_0 : w9.cell? ⟨gb112, 0, none⟩ = some (.string (⟨#[]⟩ : ByteArray)) := (blk_cell BK112.out 0).trans rfl; have hcz10_1 : w9.cell? ⟨gb112, 1, none⟩ = some (.int .u64 0) := (blk_cell BK112.out 1).trans rfl; have hfz10_0 := blk_frozen BK112.out 0; have hfz10_1 := blk_frozen BK112.out 1))
              go_roundg k1
              case measure => have := HK1.out; omega
              case rel => exact ⟨(wrap64 (x10_1 + 1)), (by first | rfl | (simp; done) | (simp [*]; done)), H', ⟨by have := HK1.out; omega⟩, ⟨by repeat (first | (with_reducible first | exact HB.out | apply below_alloc | apply pw_below_drewN | apply below_drew1 | refine below_set ?_ GE112.out) | exact HB.out)⟩⟩
          · rw [if_neg c5] at H
            exact absurd H (by simp)
        · rw [if_neg c4] at H
          exact absurd H (by simp)
      · rw [if_neg c3] at H
        have c3b0 : decide (x10_1 < (l0.length : Int)) = false := decide_eq_false c3
        clear c3
        simp only [Option.some.injEq, Prod.mk.injEq] at H
        obtain ⟨rfl, rfl⟩ := H
        go_wp2
        go_ret2
        exact ⟨by first | rfl | (simp [errW_none, errW_some] <;> rfl) | (simp [*, errW_none, errW_some] <;> rfl), by repeat (first | (with_reducible first | exact HB.out | apply below_alloc | apply pw_below_drewN | apply below_drew1) | exact HB.out)⟩

end Go.Proofs.Ytjnefjggmeieaaa.MT
