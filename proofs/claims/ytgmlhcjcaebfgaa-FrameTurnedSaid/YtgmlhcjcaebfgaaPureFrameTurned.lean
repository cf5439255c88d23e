/- The plain statement of the law FrameTurned, without program and memory: a sealed frame with bits of one byte turned is refused, or read as a shorter one. No condition. -/
import Derived.Test.YtgmlhcjcaebfgaaMAx5
import Derived.Test.YtgmlhcjcaebfgaaPlainFrame
namespace Go.Proofs.Ytgmlhcjcaebfgaa.Pure
open Go.RowKit Go.Proofs.Ytgmlhcjcaebfgaa.MA Go.Proofs.YtgmlhcjcaebfgaaW.PrintWords Go.Proofs.YtgmlhcjcaebfgaaW.PrintLast

theorem nb_zero {c : Nat} (h : c < 4294967296) (he : nb c = 0) : c = 0 := by
  unfold nb at he
  split at he
  · have h2 : c / 2 = 3988292384 := by
      have h3 : (c / 2 ^^^ 3988292384) ^^^ 3988292384 = 0 ^^^ 3988292384 := by rw [he]
      rwa [Nat.xor_assoc, Nat.xor_self, Nat.xor_zero, Nat.zero_xor] at h3
    omega
  · omega
theorem xor_eq_zero' {a b : Nat} (h : a ^^^ b = 0) : a = b := by
  have h2 : (a ^^^ b) ^^^ b = 0 ^^^ b := by rw [h]
  rwa [Nat.xor_assoc, Nat.xor_self, Nat.xor_zero, Nat.zero_xor] at h2
theorem nb_inj {a b : Nat} (ha : a < 4294967296) (hb : b < 4294967296) (h : nb a = nb b) : a = b := by
  refine xor_eq_zero' (nb_zero (Nat.xor_lt_two_pow (n := 32) ha hb) ?_)
  rw [nb_xor, h, Nat.xor_self]
theorem nb8_inj {a b : Nat} (ha : a < 4294967296) (hb : b < 4294967296) (h : nb8 a = nb8 b) : a = b := by
  have l := fun {c : Nat} (h : c < 4294967296) => nb_lt h
  have h2 : nb4 a = nb4 b := nb_inj (l (l (l ha))) (l (l (l hb))) |> fun _ => by
    unfold nb8 at h
    have e := nb_inj (nb4_lt ha) (nb4_lt hb) (nb_inj (l (nb4_lt ha)) (l (nb4_lt hb)) (nb_inj (l (l (nb4_lt ha))) (l (l (nb4_lt hb))) (nb_inj (l (l (l (nb4_lt ha)))) (l (l (l (nb4_lt hb)))) h)))
    exact e
  exact nb_inj ha hb (nb_inj (l ha) (l hb) (nb_inj (l (l ha)) (l (l hb)) (nb_inj (l (l (l ha))) (l (l (l hb))) h2)))
theorem crcN_inj : ∀ (p : List Int) (a b : Nat), a < 4294967296 → b < 4294967296 → crcN a p = crcN b p → a = b
  | [], _, _, _, _, h => h
  | x :: p, a, b, ha, hb, h => by
    have l := fun {c : Nat} (hc : c < 4294967296) => Nat.xor_lt_two_pow (n := 32) hc (show x.toNat % 4294967296 < 2 ^ 32 by omega)
    have h2 := crcN_inj p _ _ (nb8_lt (l ha)) (nb8_lt (l hb)) h
    have h3 := nb8_inj (l ha) (l hb) h2
    have h4 : (a ^^^ x.toNat % 4294967296) ^^^ (x.toNat % 4294967296) = (b ^^^ x.toNat % 4294967296) ^^^ (x.toNat % 4294967296) := by rw [h3]
    rwa [Nat.xor_assoc, Nat.xor_self, Nat.xor_zero, Nat.xor_assoc, Nat.xor_self, Nat.xor_zero] at h4
theorem set_split {l : List Int} {i : Nat} (h : i < l.length) (y : Int) : l.set i y = l.take i ++ y :: l.drop (i + 1) := by
  rw [List.set_eq_take_append_cons_drop, if_pos h]
theorem crcN_set {l : List Int} (hb : Bytes l) {i : Nat} (h : i < l.length) {y : Int} (hy : 0 ≤ y ∧ y < 256) (he : checkN (l.set i y) = checkN l) : y = l[i] := by
  unfold checkN at he
  have h1 := crcN_lt (l.set i y) 4294967295 (by decide)
  have h2 := crcN_lt l 4294967295 (by decide)
  have h3 : crcN 4294967295 (l.set i y) = crcN 4294967295 l := by omega
  rw [set_split h] at h3
  have hl : l = l.take i ++ l[i] :: l.drop (i + 1) := by rw [← List.drop_eq_getElem_cons h, List.take_append_drop]
  have hx := hb l[i] (List.getElem_mem h)
  conv at h3 => rhs; rw [hl]
  rw [crcN_append, crcN_append] at h3
  have hc := crcN_lt (l.take i) 4294967295 (by decide)
  generalize crcN 4294967295 (l.take i) = c at *
  have lt := fun (n : Nat) => Nat.xor_lt_two_pow (n := 32) hc (show n % 4294967296 < 2 ^ 32 by omega)
  have h4 := crcN_inj _ _ _ (nb8_lt (lt y.toNat)) (nb8_lt (lt l[i].toNat)) h3
  have h5 := nb8_inj (lt y.toNat) (lt l[i].toNat) h4
  have h6 : c ^^^ (c ^^^ y.toNat % 4294967296) = c ^^^ (c ^^^ l[i].toNat % 4294967296) := by rw [h5]
  rw [← Nat.xor_assoc, ← Nat.xor_assoc, Nat.xor_self, Nat.zero_xor, Nat.zero_xor] at h6
  omega
theorem val4_set {c i : Nat} (_hc : c < 4294967296) (hi : i < 4) {y : Int} (hy : 0 ≤ y ∧ y < 256) (he : val4 ((four c).set i y) = c) : y = (four c)[i]'hi := by
  unfold four at *
  unfold val4 at he
  rcases (show i = 0 ∨ i = 1 ∨ i = 2 ∨ i = 3 by omega) with rfl | rfl | rfl | rfl
  all_goals
    simp only [List.set_cons_zero, List.set_cons_succ, List.getD_cons_zero, List.getD_cons_succ, Int.toNat_natCast, List.getElem_cons_zero, List.getElem_cons_succ] at *
    omega
theorem turned (kind : Nat) (body : List Int) (hk : kind < 256) (hb : Bytes body) (hl : body.length ≤ 8192) (i : Nat) (hi : i < (sealed kind body).length) (y : Int) (hy : 0 ≤ y ∧ y < 256) (hne : y ≠ (sealed kind body)[i]) :
    ∃ n : Int, (∃ e, e ≠ 0 ∧ openOf ((sealed kind body).set i y) = (0, [], 0, e)) ∨ (∃ a b n, openOf ((sealed kind body).set i y) = (a, b, n, 0) ∧ n < ((sealed kind body).length : Int)) := by
  refine ⟨0, ?_⟩
  generalize hv : val4 ((sealed kind body).set i y) = v
  have hlen : ((sealed kind body).set i y).length = body.length + 9 := by rw [List.length_set, sealed_len]
  unfold openOf
  rw [hv, hlen]
  by_cases h1 : v > 8192
  · exact .inl ⟨4, by decide, by rw [if_neg (by omega), if_pos h1]⟩
  · by_cases h2 : body.length + 9 < v + 9
    · exact .inl ⟨10, by decide, by rw [if_neg (by omega), if_neg h1, if_pos h2]⟩
    · rw [if_neg (by omega), if_neg h1, if_neg h2]
      by_cases h3 : val4 (((sealed kind body).set i y).drop (5 + v)) = checkN (((sealed kind body).set i y).take (5 + v))
      · rw [if_pos h3]
        refine .inr ⟨_, _, _, rfl, ?_⟩
        rw [sealed_len]
        have : v ≠ body.length := by
          intro hvl
          rw [hvl] at h3
          have hhl := headBody_len kind body
          unfold sealed at h3 hne hi
          by_cases hi2 : i < (headBody kind body).length
          · have e1 : (headBody kind body ++ four (checkN (headBody kind body))).set i y = (headBody kind body).set i y ++ four (checkN (headBody kind body)) := by
              rw [List.set_append_left _ _ hi2]
            rw [e1, List.drop_append, List.drop_eq_nil_of_le (by rw [List.length_set, hhl]; omega), List.nil_append, List.length_set, hhl, show 5 + body.length - (body.length + 5) = 0 by omega, List.drop_zero,
              List.take_append_of_le_length (by rw [List.length_set, hhl]; omega), List.take_of_length_le (by rw [List.length_set, hhl]; omega)] at h3
            rw [show four (checkN (headBody kind body)) = four (checkN (headBody kind body)) ++ [] by rw [List.append_nil], val4_four _ (checkN_lt _)] at h3
            have h4 := crcN_set (headBody_bytes hk hb) hi2 hy h3.symm
            rw [List.getElem_append_left hi2] at hne
            exact hne h4
          · have hi3 : i - (headBody kind body).length < 4 := by rw [List.length_append, four_len] at hi; omega
            have e1 : (headBody kind body ++ four (checkN (headBody kind body))).set i y = headBody kind body ++ (four (checkN (headBody kind body))).set (i - (headBody kind body).length) y := by
              rw [List.set_append_right _ _ (by omega)]
            rw [e1, List.drop_append, List.drop_eq_nil_of_le (by rw [hhl]; omega), List.nil_append, hhl, show 5 + body.length - (body.length + 5) = 0 by omega, List.drop_zero,
              List.take_append_of_le_length (by rw [hhl]; omega), List.take_of_length_le (by rw [hhl]; omega), ← hhl] at h3
            have h4 := val4_set (checkN_lt _) hi3 hy h3
            rw [List.getElem_append_right (by omega)] at hne
            exact hne h4
        omega
      · exact .inl ⟨11, by decide, by rw [if_neg h3]⟩
theorem xor_u8 (a b : Nat) (ha : a < 256) (hb : b < 256) : Go.bits .xor .u8 (a : Int) (b : Int) = ((a ^^^ b : Nat) : Int) :=
  bits_xor_nat (k := .u8) (j := 8) rfl (fun n h0 h1 => by rw [IntKind.wrap_u8]; omega) a b ha hb
theorem FrameTurned : forebearlaw07_FrameTurned.Pure := by
  intro x at_ mask hx _ hm
  have hb : Bytes x.f1 := u8_range hx.2.2.2
  have hmr : 0 ≤ mask ∧ mask < 256 := by
    have := u8_range (l := [mask]) (fun y hy => by rw [List.mem_singleton.1 hy]; exact hm)
    exact this mask (by simp)
  refine Ev.rounds ?_
  refine Ev.bind frame_awake_ev ?_
  refine Ev.congr (fun k => if_pos rfl) ?_
  refine Ev.bind (seal_ev x.f0 x.f1 hb) ?_
  unfold sealOf
  by_cases h1 : x.f0 < 0 ∨ x.f0 > 255
  · rw [if_pos h1]; exact Ev.congr (fun k => if_neg (by decide)) (Ev.now true)
  · rw [if_neg h1]
    by_cases h2 : x.f1.length > 8192
    · rw [if_pos h2]; exact Ev.congr (fun k => if_neg (by decide)) (Ev.now true)
    · rw [if_neg h2]
      refine Ev.congr (fun k => if_pos rfl) ?_
      by_cases h3 : mask = 0
      · exact Ev.congr (fun k => if_pos h3) (Ev.now true)
      · refine Ev.congr (fun k => if_neg h3) ?_
        by_cases h4 : at_ < 0
        · exact Ev.congr (fun k => if_pos h4) (Ev.now true)
        · refine Ev.congr (fun k => if_neg h4) ?_
          by_cases h5 : at_ ≥ ((sealed x.f0.toNat x.f1).length : Int)
          · exact Ev.congr (fun k => if_pos h5) (Ev.now true)
          · refine Ev.congr (fun k => if_neg h5) ?_
            refine Ev.congr (fun k => if_pos (by omega)) ?_
            dsimp only
            refine Ev.congr (fun k => if_pos (show at_ < ((sealed x.f0.toNat x.f1).length : Int) by omega)) ?_
            obtain ⟨i, rfl⟩ := Int.eq_ofNat_of_zero_le (show 0 ≤ at_ by omega)
            have hi : i < (sealed x.f0.toNat x.f1).length := by omega
            have hsb : Bytes (sealed x.f0.toNat x.f1) := sealed_bytes (by omega) hb
            have hr := hsb _ (List.getElem_mem hi)
            obtain ⟨m, rfl⟩ := Int.eq_ofNat_of_zero_le hmr.1
            obtain ⟨a, ha⟩ := Int.eq_ofNat_of_zero_le hr.1
            have hy : Go.bits .xor .u8 (rd (sealed x.f0.toNat x.f1) (i : Int)) (m : Int) = ((a ^^^ m : Nat) : Int) := by
              rw [rd_nat hi, ha, xor_u8 a m (by omega) (by omega)]
            have hlt : a ^^^ m < 256 := Nat.xor_lt_two_pow (n := 8) (by omega) (by omega)
            have hne : ((a ^^^ m : Nat) : Int) ≠ (sealed x.f0.toNat x.f1)[i] := by
              rw [ha]
              intro he
              have h6 : a ^^^ (a ^^^ m) = a ^^^ a := by rw [Int.natCast_inj.1 he]
              rw [← Nat.xor_assoc, Nat.xor_self, Nat.zero_xor] at h6
              omega
            rw [hy, Int.toNat_natCast]
            have hbs : Bytes ((sealed x.f0.toNat x.f1).set i ((a ^^^ m : Nat) : Int)) := by
              intro z hz
              rcases List.mem_or_eq_of_mem_set hz with h | rfl
              · exact hsb z h
              · omega
            rw [open_eq _ hbs]
            refine Ev.bind (Ev.now _) ?_
            obtain ⟨_, h | h⟩ := turned x.f0.toNat x.f1 (by omega) hb (by omega) i hi ((a ^^^ m : Nat) : Int) (by omega) hne
            · obtain ⟨e, he0, he⟩ := h
              rw [he]
              refine Ev.congr (fun k => if_neg he0) ?_
              refine Ev.congr (fun k => if_pos rfl) ?_
              exact Ev.congr (fun k => if_pos rfl) (Ev.now true)
            · obtain ⟨e1, e2, n, he, hn⟩ := h
              rw [he]
              refine Ev.congr (f := fun _ => some true) (fun k => ?_) (Ev.now true)
              rw [if_pos rfl, decide_eq_true hn]
end Go.Proofs.Ytgmlhcjcaebfgaa.Pure
