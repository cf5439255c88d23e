/- Words for functions that were walked by hand: the length of an own row, one byte as a string, the first element that a test tells. No condition. -/
import Derived.Test.YthigjlahanejjaaWMore
import Derived.Laws.Concat
import Derived.IntWalk
import Derived.RegionTactic
import Derived.BigRegion
set_option linter.unusedVariables false
namespace Go.Proofs.Ythigjlahanejjaa.Opening
open Go.RowKit Go.Proofs.YthigjlahanejjaaW.PrintWords
theorem R_len_le {α : Type} {enc : α → Value} {h1 : ∀ x, (enc x).oneCell' = true} {e base : Nat} {W : World} {ok : Nat → Prop} {v : Value} {xs : List α} (h : (Kd.scalar enc h1).R e W base ok v xs) : xs.length ≤ 9223372036854775807 := by
  have ho := Kd.own_of_R h
  rcases ho.2 with ⟨_, h0⟩ | ⟨g, cap, cur, _, _, _, h2, h3, _⟩
  · omega
  · simp only [maxLen] at h3; omega
def oneB (x : Int) : ByteArray := strOfNums [x]
/-- The place of the first that a test tells; -1: there is none. -/
def firstOf {α : Type} (p : α → Option Bool) : List α → Int → Option Int
  | [], _ => some (-1)
  | x :: t, i => (p x).bind fun b => if b then some i else firstOf p t (i + 1)
theorem firstOf_mono {α : Type} {p q : α → Option Bool} (h : ∀ x, LeO (p x) (q x)) : ∀ (l : List α) (i : Int), LeO (firstOf p l i) (firstOf q l i)
  | [], _ => LeO.refl _
  | x :: t, i => by
    unfold firstOf
    refine LeO.bind (h x) (fun b => ?_)
    split
    · exact LeO.refl _
    · exact firstOf_mono h t (i + 1)
end Go.Proofs.Ythigjlahanejjaa.Opening
