/- The plain statement of the law FilterOrder, without program and memory. No condition. -/
import Derived.Test.YtgfiapeinpcipaaMFx12
import Derived.Test.YtgfiapeinpcipaaPlainFilter
set_option linter.unusedVariables false
set_option linter.unusedSimpArgs false
namespace Go.Proofs.Ytgfiapeinpcipaa.Pure
open Go.RowKit Go.Proofs.Ytgfiapeinpcipaa.MF Go.Proofs.YtgfiapeinpcipaaW.PrintWords Go.Proofs.YtgfiapeinpcipaaW.PrintLast
theorem order_j2 (l back : List ByteArray) (a1 : ByteArray) (g1 : a1.size ≤ 140737488351232) (hb : back.length ≤ 1000) (hs : ∀ p ∈ back, p.size ≤ 140737488351232) (h : ∀ x, x ∈ back ↔ x ∈ l) : Ev (fun k => forebearlaw11_FilterOrder.j2 k a1 back (strOfNums (mkF l))) true := by
  refine Ev.step (f := fun k => (forebearref03_Is.f k a1).bind fun t342 => (if t342 = true then ((filter_Make.f k back).bind fun t343 => (some ((strOfNums t343).toList == (strOfNums (mkF l)).toList))) else (if back.length < 8796093022208 then ((filter_Make.f k (back ++ [a1])).bind fun t349 => (some ((strOfNums t349).toList == (strOfNums (mkF l)).toList))) else (none)))) (fun k => ?_) (Ev.bind (a := isB a1) ⟨4001, fun k hk => refIs_f k (by omega)⟩ ?_)
  · simp only [forebearlaw11_FilterOrder.j2]
  · by_cases c : isB a1 = true
    · have e : mkF back = mkF l := mkF_ext fun x _ => h x
      refine Ev.congr (fun k => by rw [if_pos c]) (Ev.bind (make_ev back (by omega) hs) ?_)
      rw [e]
      refine Ev.congr (f := fun _ => some true) (fun k => ?_) (Ev.now _)
      simp
    · have e : mkF (back ++ [a1]) = mkF l := mkF_ext fun x hx => by
        rw [List.mem_append, List.mem_singleton, h]
        constructor
        · rintro (h | rfl)
          · exact h
          · exact absurd hx c
        · exact .inl
      refine Ev.congr (fun k => by rw [if_neg c, if_pos (by omega)]) (Ev.bind (make_ev (back ++ [a1]) (by simp; omega) (fun p hp => by
        rcases List.mem_append.1 hp with hp | hp
        · exact hs p hp
        · rw [List.mem_singleton.1 hp]; exact g1)) ?_)
      rw [e]
      refine Ev.congr (f := fun _ => some true) (fun k => ?_) (Ev.now _)
      simp
theorem order_l0 (l : List ByteArray) (hl : l.length ≤ 200) (hs : ∀ p ∈ l, p.size ≤ 140737488351232) (a1 : ByteArray) (g1 : a1.size ≤ 140737488351232) : ∀ (n : Nat) (hn : n ≤ l.length), Ev (fun k => forebearlaw11_FilterOrder.l0 k l a1 (l.drop n).reverse ((n : Int) - 1)) true := by
  intro n
  induction n with
  | zero =>
    intro hn
    rw [List.drop_zero]
    refine Ev.step (f := fun k => (filter_Make.f k l).bind fun t335 => (if (l.length : Int) > 0 then (if 0 < (l.length : Int) then (if l.reverse.length < 8796093022208 then (forebearlaw11_FilterOrder.j2 k a1 (l.reverse ++ [rdOf ByteArray.empty l 0]) (strOfNums t335)) else (none)) else (none)) else (forebearlaw11_FilterOrder.j2 k a1 l.reverse (strOfNums t335)))) (fun k => ?_) (Ev.bind (make_ev l (by omega) hs) ?_)
    · simp only [forebearlaw11_FilterOrder.l0]
      rw [if_neg (by omega)]
    · by_cases c : 0 < l.length
      · have e : rdOf ByteArray.empty l 0 = l[0] := rdOf_nat l 0 c
        refine Ev.congr (fun k => by rw [if_pos (by omega), if_pos (by omega), if_pos (by rw [List.length_reverse]; omega), e]) (order_j2 l _ a1 g1 (by simp; omega) (fun p hp => ?_) (fun x => ?_))
        · rcases List.mem_append.1 hp with hp | hp
          · exact hs p (List.mem_reverse.1 hp)
          · rw [List.mem_singleton.1 hp]; exact hs _ (List.getElem_mem c)
        · rw [List.mem_append, List.mem_reverse, List.mem_singleton]
          constructor
          · rintro (h | rfl)
            · exact h
            · exact List.getElem_mem c
          · exact .inl
      · refine Ev.congr (fun k => by rw [if_neg (by omega)]) (order_j2 l _ a1 g1 (by simp; omega) (fun p hp => hs p (List.mem_reverse.1 hp)) (fun x => List.mem_reverse))
  | succ n ih =>
    intro hn
    have hnl : n < l.length := by omega
    have e : (l.drop (n + 1)).reverse ++ [l[n]] = (l.drop n).reverse := by rw [List.drop_eq_getElem_cons hnl, List.reverse_cons]
    refine Ev.step (f := fun k => forebearlaw11_FilterOrder.l0 k l a1 (l.drop n).reverse ((n : Int) - 1)) (fun k => ?_) (ih (by omega))
    have e1 : ((n + 1 : Nat) : Int) - 1 = (n : Int) := by omega
    have e2 : wrap64 ((n : Int) - 1) = (n : Int) - 1 := w64 _ (by omega)
    simp only [forebearlaw11_FilterOrder.l0]
    rw [e1, if_pos (by omega), if_pos (by omega), if_pos (by omega), if_pos (by rw [List.length_reverse, List.length_drop]; omega), rdOf_nat l n hnl, e, e2]
theorem FilterOrder : forebearlaw11_FilterOrder.Pure := by
  intro l0 a1 g g1
  refine Ev.rounds ?_
  unfold forebearlaw11_FilterOrder.f
  refine Ev.bind awake_ev ?_
  refine Ev.congr (fun k => by rw [if_pos rfl]) ?_
  unfold forebearlaw11_few.f
  simp only [Option.bind_some]
  by_cases c : (l0.length : Int) ≤ 200
  · rw [decide_eq_true c]
    have e2 : wrap64 ((l0.length : Int) - 1) = (l0.length : Int) - 1 := w64 _ (by omega)
    refine Ev.step (f := fun k => forebearlaw11_FilterOrder.l0 k l0 a1 [] ((l0.length : Int) - 1)) (fun k => ?_) ?_
    · simp only [forebearlaw11_FilterOrder.j0]
      rw [if_neg (by simp), e2]
    · have := order_l0 l0 (by omega) g.2.2 a1 g1 l0.length (Nat.le_refl _)
      rw [List.drop_length, List.reverse_nil] at this
      exact this
  · rw [decide_eq_false c]
    refine Ev.step (f := fun k => (forebearlaw11_awake.f k).bind fun t330 => some t330) (fun k => ?_) (Ev.bind awake_ev (Ev.now true))
    simp only [forebearlaw11_FilterOrder.j0]
    rw [if_pos (by simp)]
end Go.Proofs.Ytgfiapeinpcipaa.Pure
