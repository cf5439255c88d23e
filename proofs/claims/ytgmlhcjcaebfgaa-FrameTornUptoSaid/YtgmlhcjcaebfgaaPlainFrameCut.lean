/- Plain facts of cutting a row of frames, over lists of bytes. No condition. -/
import Derived.Test.YtgmlhcjcaebfgaaMAx0
import Derived.Test.YtgmlhcjcaebfgaaMAx17
import Derived.Test.YtgmlhcjcaebfgaaPlainFrame
namespace Go.Proofs.Ytgmlhcjcaebfgaa.Pure
open Go.RowKit Go.Proofs.Ytgmlhcjcaebfgaa.Opening Go.Proofs.Ytgmlhcjcaebfgaa.MA Go.Proofs.YtgmlhcjcaebfgaaW.PrintWords Go.Proofs.YtgmlhcjcaebfgaaW.PrintLast Go.Proofs.YtgmlhcjcaebfgaaW.PrintMore

def cutFrom (l : List Int) : Nat → List (Int × List Int) → Nat → List (Int × List Int) × Int × Int
  | 0, acc, at_ => (acc, (at_ : Int), 0)
  | d + 1, acc, at_ =>
    if at_ < l.length then
      if (openOf (l.drop at_)).2.2.2 = 0 then cutFrom l d (acc ++ [((openOf (l.drop at_)).1, (openOf (l.drop at_)).2.1)]) (at_ + (openOf (l.drop at_)).2.2.1.toNat)
      else (acc, (at_ : Int), (openOf (l.drop at_)).2.2.2)
    else (acc, (at_ : Int), 0)
theorem open_good {l : List Int} (h : (openOf l).2.2.2 = 0) : ∃ n : Nat, (openOf l).2.2.1 = ((n + 9 : Nat) : Int) ∧ n + 9 ≤ l.length := by
  unfold openOf at *
  split at h
  · simp at h
  · split at h
    · simp at h
    · split at h
      · simp at h
      · split at h
        · rw [if_neg (by omega), if_neg (by omega), if_neg (by omega), if_pos (by assumption)]
          exact ⟨val4 l, rfl, by omega⟩
        · simp at h
def m47 (x : Int × List Int) : S47 := ⟨x.1, x.2⟩
theorem cut_l0 (l : List Int) (hb : Bytes l) (hl : l.length < 4398046511104) : ∀ (d : Nat) (acc : List (Int × List Int)) (at_ : Nat), l.length < at_ + d → at_ ≤ l.length → acc.length ≤ at_ →
    Ev (fun k => frame_Cut.l0 k l (acc.map m47) (at_ : Int)) ((cutFrom l d acc at_).1.map m47, (cutFrom l d acc at_).2.1, (cutFrom l d acc at_).2.2) := by
  intro d
  induction d with
  | zero => intro acc at_ h1 h2; omega
  | succ d ih =>
    intro acc at_ h1 h2 h3
    unfold cutFrom
    by_cases h : at_ < l.length
    · rw [if_pos h]
      refine Ev.step (fun k => by simp only [frame_Cut.l0]; rw [if_pos (by omega), if_pos (by omega), if_pos (by omega), Int.toNat_natCast, open_eq _ (hb.drop at_)]) ?_
      refine Ev.bind (Ev.now _) ?_
      by_cases he : (openOf (l.drop at_)).2.2.2 = 0
      · rw [if_pos he]
        obtain ⟨n, hn, hn2⟩ := open_good he
        rw [List.length_drop] at hn2
        refine Ev.congr (fun k => if_pos he) ?_
        refine Ev.congr (fun k => if_pos (by rw [List.length_map]; omega)) ?_
        have := ih (acc ++ [((openOf (l.drop at_)).1, (openOf (l.drop at_)).2.1)]) (at_ + (openOf (l.drop at_)).2.2.1.toNat) (by omega) (by omega) (by simp; omega)
        rw [List.map_append] at this
        refine Ev.congr (fun k => ?_) this
        rw [show wrap64 ((at_ : Int) + (openOf (l.drop at_)).2.2.1) = ((at_ + (openOf (l.drop at_)).2.2.1.toNat : Nat) : Int) by unfold wrap64; omega]
        rfl
      · rw [if_neg he]
        exact Ev.congr (fun k => if_neg he) (Ev.now _)
    · rw [if_neg h]
      refine Ev.step (fun k => by simp only [frame_Cut.l0]; rw [if_neg (by omega)]) (Ev.now _)
end Go.Proofs.Ytgmlhcjcaebfgaa.Pure
