/- Laid by this claim's own program (myprint) out of the translation: functions that the laws of the group A reach, each as a plain function, with the proof that the Go code comes to it. No condition. -/
import Derived.Test.YtgmlhcjcaebfgaaMAx0
import Derived.Test.YtgmlhcjcaebfgaaMAx10
import Derived.Test.YtgmlhcjcaebfgaaMAx11
namespace Go.Proofs.Ytgmlhcjcaebfgaa.MA
open Go.Proofs.Ytgmlhcjcaebfgaa.Opening
open Go.RowKit Go.Proofs.YtgmlhcjcaebfgaaW.PrintWords Go.Proofs.YtgmlhcjcaebfgaaW.PrintLast Go.Proofs.YtgmlhcjcaebfgaaW.PrintMore
attribute [local go_sem] max2_int min2_int max_two min_two max_three min_three max_four min_four   -- for this text's walks alone
set_option linter.unusedVariables false
set_option linter.unusedSimpArgs false

/-! ### forebearlaw07_awake: function 23 -/
def forebearlaw07_awake.f (k : Nat)  : Option (Bool) := (constb1.f).bind fun t218 => ((frame_Seal.f k 1 t218).bind fun bt221 => ((frame_Open.f bt221.1).bind fun bt225 => (if bt221.2 = 0 then (if bt225.2.2.2 = 0 then (if (bt221.1.length : Int) = 10 then (if 3 < (bt221.1.length : Int) then (if (rd bt221.1 3) = 1 then (if 4 < (bt221.1.length : Int) then (if (rd bt221.1 4) = 1 then (if 5 < (bt221.1.length : Int) then (if (rd bt221.1 5) = 97 then (if bt225.2.2.1 = 10 then (if bt225.1 = 1 then (some ((strOfNums bt225.2.1).toList == ([97] : List UInt8))) else (some false)) else (some false)) else (some false)) else (none)) else (some false)) else (none)) else (some false)) else (none)) else (some false)) else (some false)) else (some false))))
theorem forebearlaw07_awake.mono : ∀ k, LeO (forebearlaw07_awake.f k ) (forebearlaw07_awake.f (k + 1) ) := by
 intro  k
 unfold forebearlaw07_awake.f
 repeat' first
   | (with_reducible exact frame_Seal.mono _ _ _)
   | (with_reducible exact LeO.refl _)
   | (with_reducible exact LeO.none _)
   | (with_reducible refine LeO.ite ?_ ?_)
   | (with_reducible refine LeO.bind ?_ (fun _ => ?_))
   | exact frame_Seal.mono _ _ _
   | exact LeO.none _
   | refine LeO.ite ?_ ?_
   | refine LeO.bind ?_ (fun _ => ?_)
set_option maxHeartbeats 8000000 in
set_option maxRecDepth 100000 in
theorem forebearlaw07_awake.calls (k : Nat)  (r : Bool) (w : World) (h : forebearlaw07_awake.f k  = some r) :
  Calls Try.prog 23 #[] w fun e w' => e = .returned (.bool r) ∧ Below w.heap.size w w' := by
 have hu47 := Try.underlying47
 have HB := Aside0.mk (Below.refl w.heap.size w)
 have H : ((constb1.f).bind fun t218 => ((frame_Seal.f k 1 t218).bind fun bt221 => ((frame_Open.f bt221.1).bind fun bt225 => (if bt221.2 = 0 then (if bt225.2.2.2 = 0 then (if (bt221.1.length : Int) = 10 then (if 3 < (bt221.1.length : Int) then (if (rd bt221.1 3) = 1 then (if 4 < (bt221.1.length : Int) then (if (rd bt221.1 4) = 1 then (if 5 < (bt221.1.length : Int) then (if (rd bt221.1 5) = 97 then (if bt225.2.2.1 = 10 then (if bt225.1 = 1 then (some ((strOfNums bt225.2.1).toList == ([97] : List UInt8))) else (some false)) else (some false)) else (some false)) else (none)) else (some false)) else (none)) else (some false)) else (none)) else (some false)) else (some false)) else (some false))))) = some r := h
 clear h
 replace H := Option.bind_eq_some_iff.mp H
 obtain ⟨t218, A10, H⟩ := H
 replace H : ((frame_Seal.f k 1 t218).bind fun bt221 => ((frame_Open.f bt221.1).bind fun bt225 => (if bt221.2 = 0 then (if bt225.2.2.2 = 0 then (if (bt221.1.length : Int) = 10 then (if 3 < (bt221.1.length : Int) then (if (rd bt221.1 3) = 1 then (if 4 < (bt221.1.length : Int) then (if (rd bt221.1 4) = 1 then (if 5 < (bt221.1.length : Int) then (if (rd bt221.1 5) = 97 then (if bt225.2.2.1 = 10 then (if bt225.1 = 1 then (some ((strOfNums bt225.2.1).toList == ([97] : List UInt8))) else (some false)) else (some false)) else (some false)) else (none)) else (some false)) else (none)) else (some false)) else (none)) else (some false)) else (some false)) else (some false)))) = some r := H
 have A1 := Aside0.mk A10
 clear A10
 replace H := Option.bind_eq_some_iff.mp H
 obtain ⟨⟨t221, t224⟩, A20, H⟩ := H
 replace H : ((frame_Open.f t221).bind fun bt225 => (if t224 = 0 then (if bt225.2.2.2 = 0 then (if (t221.length : Int) = 10 then (if 3 < (t221.length : Int) then (if (rd t221 3) = 1 then (if 4 < (t221.length : Int) then (if (rd t221 4) = 1 then (if 5 < (t221.length : Int) then (if (rd t221 5) = 97 then (if bt225.2.2.1 = 10 then (if bt225.1 = 1 then (some ((strOfNums bt225.2.1).toList == ([97] : List UInt8))) else (some false)) else (some false)) else (some false)) else (none)) else (some false)) else (none)) else (some false)) else (none)) else (some false)) else (some false)) else (some false))) = some r := H
 have A2 := Aside0.mk A20
 clear A20
 replace H := Option.bind_eq_some_iff.mp H
 obtain ⟨⟨t225, t226, t229, t230⟩, A30, H⟩ := H
 replace H : (if t224 = 0 then (if t230 = 0 then (if (t221.length : Int) = 10 then (if 3 < (t221.length : Int) then (if (rd t221 3) = 1 then (if 4 < (t221.length : Int) then (if (rd t221 4) = 1 then (if 5 < (t221.length : Int) then (if (rd t221 5) = 97 then (if t229 = 10 then (if t225 = 1 then (some ((strOfNums t226).toList == ([97] : List UInt8))) else (some false)) else (some false)) else (some false)) else (none)) else (some false)) else (none)) else (some false)) else (none)) else (some false)) else (some false)) else (some false)) = some r := H
 have A3 := Aside0.mk A30
 clear A30
 refine (Classical.em (t224 = 0)).elim (fun c4 => ?gp1) (fun c4 => ?gn1)
 case' gp1 =>
  rw [if_pos c4] at H
  have c4b0 : (t224 == 0) = true := beq_iff_eq.mpr c4
  have c4b1 : (t224 != 0) = false := bne_eq_false_iff_eq.mpr c4
  clear c4
  refine (Classical.em (t230 = 0)).elim (fun c5 => ?gp2) (fun c5 => ?gn2)
  case' gp2 =>
   rw [if_pos c5] at H
   have c5b0 : (t230 == 0) = true := beq_iff_eq.mpr c5
   have c5b1 : (t230 != 0) = false := bne_eq_false_iff_eq.mpr c5
   clear c5
   refine (Classical.em ((t221.length : Int) = 10)).elim (fun c6 => ?gp3) (fun c6 => ?gn3)
   case' gp3 =>
    rw [if_pos c6] at H
    have c6b0 : ((t221.length : Int) == 10) = true := beq_iff_eq.mpr c6
    have c6b1 : ((t221.length : Int) != 10) = false := bne_eq_false_iff_eq.mpr c6
    clear c6
    refine (Classical.em (3 < (t221.length : Int))).elim (fun c7 => ?gp4) (fun c7 => ?gn4)
    case' gp4 =>
     rw [if_pos c7] at H
     have c7b0 : decide (3 < (t221.length : Int)) = true := decide_eq_true c7
     have c7b1 : decide (3 < t221.length) = true := decide_eq_true (by omega)
     clear c7
     refine (Classical.em ((rd t221 3) = 1)).elim (fun c8 => ?gp5) (fun c8 => ?gn5)
     case' gp5 =>
      rw [if_pos c8] at H
      have c8b0 : ((rd t221 3) == 1) = true := beq_iff_eq.mpr c8
      have c8b1 : ((rd t221 3) != 1) = false := bne_eq_false_iff_eq.mpr c8
      clear c8
      refine (Classical.em (4 < (t221.length : Int))).elim (fun c9 => ?gp6) (fun c9 => ?gn6)
      case' gp6 =>
       rw [if_pos c9] at H
       have c9b0 : decide (4 < (t221.length : Int)) = true := decide_eq_true c9
       have c9b1 : decide (4 < t221.length) = true := decide_eq_true (by omega)
       clear c9
       refine (Classical.em ((rd t221 4) = 1)).elim (fun c10 => ?gp7) (fun c10 => ?gn7)
       case' gp7 =>
        rw [if_pos c10] at H
        have c10b0 : ((rd t221 4) == 1) = true := beq_iff_eq.mpr c10
        have c10b1 : ((rd t221 4) != 1) = false := bne_eq_false_iff_eq.mpr c10
        clear c10
        refine (Classical.em (5 < (t221.length : Int))).elim (fun c11 => ?gp8) (fun c11 => ?gn8)
        case' gp8 =>
         rw [if_pos c11] at H
         have c11b0 : decide (5 < (t221.length : Int)) = true := decide_eq_true c11
         have c11b1 : decide (5 < t221.length) = true := decide_eq_true (by omega)
         clear c11
         refine (Classical.em ((rd t221 5) = 97)).elim (fun c12 => ?gp9) (fun c12 => ?gn9)
         case' gp9 =>
          rw [if_pos c12] at H
          have c12b0 : ((rd t221 5) == 97) = true := beq_iff_eq.mpr c12
          have c12b1 : ((rd t221 5) != 97) = false := bne_eq_false_iff_eq.mpr c12
          clear c12
          refine (Classical.em (t229 = 10)).elim (fun c13 => ?gp10) (fun c13 => ?gn10)
          case' gp10 =>
           rw [if_pos c13] at H
           have c13b0 : (t229 == 10) = true := beq_iff_eq.mpr c13
           have c13b1 : (t229 != 10) = false := bne_eq_false_iff_eq.mpr c13
           clear c13
           refine (Classical.em (t225 = 1)).elim (fun c14 => ?gp11) (fun c14 => ?gn11)
           case' gp11 =>
            rw [if_pos c14] at H
            have c14b0 : (t225 == 1) = true := beq_iff_eq.mpr c14
            have c14b1 : (t225 != 1) = false := bne_eq_false_iff_eq.mpr c14
            clear c14
            obtain rfl := Option.some.inj H
           case' gn11 =>
            rw [if_neg c14] at H
            have c14b0 : (t225 == 1) = false := beq_eq_false_iff_ne.mpr c14
            have c14b1 : (t225 != 1) = true := bne_iff_ne.mpr c14
            obtain rfl := Option.some.inj H
          case' gn10 =>
           rw [if_neg c13] at H
           have c13b0 : (t229 == 10) = false := beq_eq_false_iff_ne.mpr c13
           have c13b1 : (t229 != 10) = true := bne_iff_ne.mpr c13
           obtain rfl := Option.some.inj H
         case' gn9 =>
          rw [if_neg c12] at H
          have c12b0 : ((rd t221 5) == 97) = false := beq_eq_false_iff_ne.mpr c12
          have c12b1 : ((rd t221 5) != 97) = true := bne_iff_ne.mpr c12
          obtain rfl := Option.some.inj H
        case' gn8 =>
         rw [if_neg c11] at H
         exact absurd H (by simp)
       case' gn7 =>
        rw [if_neg c10] at H
        have c10b0 : ((rd t221 4) == 1) = false := beq_eq_false_iff_ne.mpr c10
        have c10b1 : ((rd t221 4) != 1) = true := bne_iff_ne.mpr c10
        obtain rfl := Option.some.inj H
      case' gn6 =>
       rw [if_neg c9] at H
       exact absurd H (by simp)
     case' gn5 =>
      rw [if_neg c8] at H
      have c8b0 : ((rd t221 3) == 1) = false := beq_eq_false_iff_ne.mpr c8
      have c8b1 : ((rd t221 3) != 1) = true := bne_iff_ne.mpr c8
      obtain rfl := Option.some.inj H
    case' gn4 =>
     rw [if_neg c7] at H
     exact absurd H (by simp)
   case' gn3 =>
    rw [if_neg c6] at H
    have c6b0 : ((t221.length : Int) == 10) = false := beq_eq_false_iff_ne.mpr c6
    have c6b1 : ((t221.length : Int) != 10) = true := bne_iff_ne.mpr c6
    obtain rfl := Option.some.inj H
  case' gn2 =>
   rw [if_neg c5] at H
   have c5b0 : (t230 == 0) = false := beq_eq_false_iff_ne.mpr c5
   have c5b1 : (t230 != 0) = true := bne_iff_ne.mpr c5
   obtain rfl := Option.some.inj H
 case' gn1 =>
  rw [if_neg c4] at H
  have c4b0 : (t224 == 0) = false := beq_eq_false_iff_ne.mpr c4
  have c4b1 : (t224 != 0) = true := bne_iff_ne.mpr c4
  obtain rfl := Option.some.inj H
 all_goals
  go_enter Try.func23, Try.ntmps23
  go_wp2_with (first | ((with_reducible refine gate_dst (N := 8) rfl ?_); (try (refine gate_guard (by rfl) ?_; dsimp only)); refine litb_goes rfl 45 5 _ rfl Try.underlying45 Try.underlying5 [97] _ _ _ rfl rfl rfl (by decide) A1.out ?_; intro v219 w15 ho0 hb; have n0_ := Aside0.mk (Kd.V_lower (Kd.V_mono (ok' := fun k_ => True) ho0 (fun k_ hk_ => trivial)) (below_size (by repeat (first | (with_reducible first | exact HB.out | apply below_alloc | apply pw_below_drewN | apply below_drew1) | exact HB.out)))); have n1_ := Aside0.mk (below_step (by repeat (first | (with_reducible first | exact HB.out | apply below_alloc | apply pw_below_drewN | apply below_drew1) | exact HB.out)) hb); clear HB; have HO220 := n0_; have HB := n1_; clear n0_ n1_; (try clear hb); (try clear hb2); (try clear hk); (try clear hi); (try clear ho0); obtain ⟨Ao16, co16, eo16⟩ := Kd.V_slice HO220.out; subst eo16) | ((with_reducible refine gate_callee (f := 24) rfl ?_); refine goesL_ (some 10) rfl rfl Try.func24 (by kernel_rfl) rfl #[.agg #[.int .i64 1, .slice Ao16 t218.length co16]] rfl (by (try simp only [List.map_toArray, List.map_cons, List.map_nil]); first | done | rfl | (simp only [List.length_drop, List.length_take]; rfl)) ?_; (with_reducible refine (frame_Seal.calls k 1 _ _ t218 t221 t224 _ ?side1 ?side2 A2.out).mono ?_); (case side1 => repeat (first | exact (Kd.V_reads' HO220.out).2.2 | (with_reducible refine Kd.C_alloc ?_ _) | (with_reducible refine Kd.C_drewN ?_ _) | (with_reducible refine Kd.C_drew ?_))); (case side2 => exact (Kd.V_reads' HO220.out).2.1); rintro e w17 ⟨v222, rfl, ho0, hb⟩; refine ⟨_, rfl, ?_⟩; have n0_ := Aside0.mk (Kd.V_elder' (by (with_reducible repeat (first | apply Kd.V_alloc | apply Kd.V_drewN | apply Kd.V_drew)); exact HO220.out) (Kd.R_base ho0) hb); have n1_ := Aside0.mk (Kd.R_lower ho0 (below_size (by repeat (first | (with_reducible first | exact HB.out | apply below_alloc | apply pw_below_drewN | apply below_drew1) | exact HB.out)))); have n2_ := Aside0.mk (below_step (by repeat (first | (with_reducible first | exact HB.out | apply below_alloc | apply pw_below_drewN | apply below_drew1) | exact HB.out)) hb); clear HO220; clear HB; have HO220 := n0_; have HO223 := n1_; have HB := n2_; clear n0_ n1_ n2_; (try clear hb); (try clear hb2); (try clear hk); (try clear hi); (try clear ho0); obtain ⟨Ao18, co18, eo18⟩ := Kd.R_slice HO223.out; subst eo18) | ((with_reducible refine gate_callee (f := 25) rfl ?_); refine goesL_ (some 15) rfl rfl Try.func25 (by kernel_rfl) rfl #[.slice Ao18 t221.length co18] rfl (by (try simp only [List.map_toArray, List.map_cons, List.map_nil]); first | done | rfl | (simp only [List.length_drop, List.length_take]; rfl)) ?_; (with_reducible refine (frame_Open.calls (fun k_ => some k_ = (.slice Ao18 t221.length co18 : Value).ownBlock) _ _ t221 t225 t226 t229 t230 _ ?side1 A3.out).mono ?_); (case side1 => exact Kd.R_V (Kd.R_tight rfl (HO223.out))); rintro e w19 ⟨v227, rfl, ho0, hb⟩; refine ⟨_, rfl, ?_⟩; have n0_ := Aside0.mk (Kd.V_elder' (by (with_reducible repeat (first | apply Kd.V_alloc | apply Kd.V_drewN | apply Kd.V_drew)); exact HO220.out) (Kd.R_base ho0) hb); have n1_ := Aside0.mk (Kd.R_elder' (by (with_reducible repeat (first | apply Kd.R_alloc | apply Kd.R_drewN | apply Kd.R_drew)); exact HO223.out) (Kd.R_base ho0) hb); have n2_ := Aside0.mk (Kd.R_lower (Kd.R_new' (Kd.R_mono (ok' := fun k_ => True) ho0 (fun _ hk_ => trivial)) (Kd.R_lt (by (with_reducible repeat (first | apply Kd.R_alloc | apply Kd.R_drewN | apply Kd.R_drew)); exact HO223.out))) (below_size (by repeat (first | (with_reducible first | exact HB.out | apply below_alloc | apply pw_below_drewN | apply below_drew1) | exact HB.out)))); have n3_ := Aside0.mk (below_step (by repeat (first | (with_reducible first | exact HB.out | apply below_alloc | apply pw_below_drewN | apply below_drew1) | exact HB.out)) hb); clear HO220; clear HO223; clear HB; have HO220 := n0_; have HO223 := n1_; have HO228 := n2_; have HB := n3_; clear n0_ n1_ n2_ n3_; (try clear hb); (try clear hb2); (try clear hk); (try clear hi); (try clear ho0)) | ((with_reducible refine gate_dst (N := 3) rfl ?_); (try (refine gate_guard (by rfl) ?_; dsimp only)); refine box_event ?hg (N := 3) ?hd (cs := #[.int .i64 0, .slice none 0 0]) (t := 47) ?hr ?_; (case hd => rfl); (case hg => rfl); (case hr => first | (go_simp; done) | (go_simp; rfl)); intro gb231 hg w20 hbox hb; have n0_ := Aside0.mk (Kd.V_below (Kd.V_elderB (by (with_reducible repeat (first | apply Kd.V_alloc | apply Kd.V_drewN | apply Kd.V_drew)); exact HO220.out) gb231 (Nat.le_of_eq hg.symm)) hb); have n1_ := Aside0.mk (Kd.R_below (by (with_reducible repeat (first | apply Kd.R_alloc | apply Kd.R_drewN | apply Kd.R_drew)); exact HO223.out) hb); have n2_ := Aside0.mk (Kd.R_below (by (with_reducible repeat (first | apply Kd.R_alloc | apply Kd.R_drewN | apply Kd.R_drew)); exact HO228.out) hb); have n3_ := Aside0.mk (below_step (by repeat (first | (with_reducible first | exact HB.out | apply below_alloc | apply pw_below_drewN | apply below_drew1) | exact HB.out)) hb); have n4_ := Aside0.mk (hbox); have n5_ := Aside0.mk ((by rw [hg]; exact (below_size (by repeat (first | (with_reducible first | exact HB.out | apply below_alloc | apply pw_below_drewN | apply below_drew1) | exact HB.out))) : w.heap.size ≤ gb231)); have n6_ := Aside0.mk ((by rw [hg]; exact (below_size (by repeat (first | (with_reducible first | exact HB.out | apply below_alloc | apply pw_below_drewN | apply below_drew1) | exact HB.out))) : w.heap.size ≤ gb231)); clear HO220; clear HO223; clear HO228; clear HB; have HO220 := n0_; have HO223 := n1_; have HO228 := n2_; have HB := n3_; have BK231 := n4_; have GW231 := n5_; have GE231 := n6_; clear n0_ n1_ n2_ n3_ n4_ n5_ n6_; clear hb hbox hg; have hcz21_0 : w20.cell? ⟨gb231, 0, none⟩ = some (.int .i64 0) := (blk_cell BK231.out 0).trans rfl; have hcz21_1 : w20.cell? ⟨gb231, 1, none⟩ = some (.slice none 0 0) := (blk_cell BK231.out 1).trans rfl; have hfz21_0 := blk_frozen BK231.out 0; have hfz21_1 := blk_frozen BK231.out 1; obtain ⟨Ao22, co22, eo22⟩ := Kd.R_slice HO228.out; subst eo22; (try (have p232 : 0 ≤ (3 : Int) := (by omega); have q232 : 3 < (t221.length : Int) := of_decide_eq_true (by first | (with_reducible assumption) | assumption); obtain ⟨ad232, e232, hx232_0⟩ := Kd.at_int (Kd.R_reads' HO223.out).2.2 3 p232 q232; cases e232; (try simp only [show (3 : Int).toNat = 3 from rfl, Nat.reduceMul, Nat.reduceEqDiff, Go.Addr.add, ↓reduceIte] at hx232_0); have qi232 : (3 < t221.length) = True := eq_true (by omega); (try rw [show ((3 : Int)).toNat = 3 from rfl] at hx232_0); have hn232_0 : ad232.block ≠ gb231 := Kd.own_blk (Kd.R_ne HO223.out BK231.out (by decide)); have hn232_1 : ad232.block ≠ gb231 := Kd.own_blk (Kd.R_ne HO223.out BK231.out (by decide)); replace hx232_0 := (cell_far (p := ⟨gb231, 0, none⟩) (by first | (rw [add_block]; exact hn232_0) | (show (Addr.add _ _).block ≠ _; rw [add_block]; exact hn232_0) | exact hn232_0) (.int .i64 t225)).trans hx232_0; replace hx232_0 := (cell_far (p := ⟨gb231, 1, none⟩) (by first | (rw [add_block]; exact hn232_1) | (show (Addr.add _ _).block ≠ _; rw [add_block]; exact hn232_1) | exact hn232_1) (.slice Ao22 t226.length co22)).trans hx232_0; clear hn232_0; clear hn232_1; replace p232 := eq_true p232; replace q232 := eq_true q232)); (try (have p233 : 0 ≤ (4 : Int) := (by omega); have q233 : 4 < (t221.length : Int) := of_decide_eq_true (by first | (with_reducible assumption) | assumption); obtain ⟨ad233, e233, hx233_0⟩ := Kd.at_int (Kd.R_reads' HO223.out).2.2 4 p233 q233; obtain rfl : ad232 = ad233 := (by injection e233); (try simp only [show (4 : Int).toNat = 4 from rfl, Nat.reduceMul, Nat.reduceEqDiff, Go.Addr.add, ↓reduceIte] at hx233_0); have qi233 : (4 < t221.length) = True := eq_true (by omega); (try rw [show ((4 : Int)).toNat = 4 from rfl] at hx233_0); have hn233_0 : ad232.block ≠ gb231 := Kd.own_blk (Kd.R_ne HO223.out BK231.out (by decide)); have hn233_1 : ad232.block ≠ gb231 := Kd.own_blk (Kd.R_ne HO223.out BK231.out (by decide)); replace hx233_0 := (cell_far (p := ⟨gb231, 0, none⟩) (by first | (rw [add_block]; exact hn233_0) | (show (Addr.add _ _).block ≠ _; rw [add_block]; exact hn233_0) | exact hn233_0) (.int .i64 t225)).trans hx233_0; replace hx233_0 := (cell_far (p := ⟨gb231, 1, none⟩) (by first | (rw [add_block]; exact hn233_1) | (show (Addr.add _ _).block ≠ _; rw [add_block]; exact hn233_1) | exact hn233_1) (.slice Ao22 t226.length co22)).trans hx233_0; clear hn233_0; clear hn233_1; replace p233 := eq_true p233; replace q233 := eq_true q233)); (try (have p234 : 0 ≤ (5 : Int) := (by omega); have q234 : 5 < (t221.length : Int) := of_decide_eq_true (by first | (with_reducible assumption) | assumption); obtain ⟨ad234, e234, hx234_0⟩ := Kd.at_int (Kd.R_reads' HO223.out).2.2 5 p234 q234; obtain rfl : ad232 = ad234 := (by injection e234); (try simp only [show (5 : Int).toNat = 5 from rfl, Nat.reduceMul, Nat.reduceEqDiff, Go.Addr.add, ↓reduceIte] at hx234_0); have qi234 : (5 < t221.length) = True := eq_true (by omega); (try rw [show ((5 : Int)).toNat = 5 from rfl] at hx234_0); have hn234_0 : ad232.block ≠ gb231 := Kd.own_blk (Kd.R_ne HO223.out BK231.out (by decide)); have hn234_1 : ad232.block ≠ gb231 := Kd.own_blk (Kd.R_ne HO223.out BK231.out (by decide)); replace hx234_0 := (cell_far (p := ⟨gb231, 0, none⟩) (by first | (rw [add_block]; exact hn234_0) | (show (Addr.add _ _).block ≠ _; rw [add_block]; exact hn234_0) | exact hn234_0) (.int .i64 t225)).trans hx234_0; replace hx234_0 := (cell_far (p := ⟨gb231, 1, none⟩) (by first | (rw [add_block]; exact hn234_1) | (show (Addr.add _ _).block ≠ _; rw [add_block]; exact hn234_1) | exact hn234_1) (.slice Ao22 t226.length co22)).trans hx234_0; clear hn234_0; clear hn234_1; replace p234 := eq_true p234; replace q234 := eq_true q234; have hcv23 : (convert 45 9 (.slice Ao22 t226.length co22)).run Try.prog ((w20.setCell ⟨gb231, 0, none⟩ (.int .i64 t225)).setCell ⟨gb231, 1, none⟩ (.slice Ao22 t226.length co22)) = .ok (.string (strOfNums t226)) ((w20.setCell ⟨gb231, 0, none⟩ (.int .i64 t225)).setCell ⟨gb231, 1, none⟩ (.slice Ao22 t226.length co22)) := own_string (P := Try.prog) Try.underlying45 Try.underlying5 Try.underlying9 (Kd.own_of_R (by (with_reducible repeat (first | apply Kd.R_alloc | apply Kd.R_drewN | apply Kd.R_drew)); exact (Kd.R_mono (Kd.R_far (p := ⟨gb231, 1, none⟩) (Kd.R_far (p := ⟨gb231, 0, none⟩) (Kd.R_types HO228.out BK231.out (by decide)) (fun _ hk => hk.2) (.int .i64 t225)) (fun _ hk => hk.2) (.slice Ao22 t226.length co22)) (fun _ h_ => h_.1))))))))
  go_ret
  exact ⟨by first | rfl | (simp [errW_none, errW_some] <;> rfl) | (simp [*, errW_none, errW_some] <;> rfl), by repeat (first | (with_reducible first | exact HB.out | apply below_alloc | apply pw_below_drewN | apply below_drew1 | refine below_set ?_ GE231.out) | exact HB.out)⟩

end Go.Proofs.Ytgmlhcjcaebfgaa.MA
