/- Words for functions that were walked by hand: the length of an own row, one byte as a string, the first element that a test tells. No condition. -/
import Derived.Test.YtjnefjggmeieaaaWMore
import Derived.Laws.Concat
import Derived.IntWalk
import Derived.RegionTactic
import Derived.BigRegion
set_option linter.unusedVariables false
namespace Go.Proofs.Ytjnefjggmeieaaa.Opening
open Go.RowKit Go.Proofs.YtjnefjggmeieaaaW.PrintWords
theorem R_len_le {α : Type} {enc : α → Value} {h1 : ∀ x, (enc x).oneCell' = true} {e base : Nat} {W : World} {ok : Nat → Prop} {v : Value} {xs : List α} (h : (Kd.scalar enc h1).R e W base ok v xs) : xs.length ≤ 9223372036854775807 := by
  have ho := Kd.own_of_R h
  rcases ho.2 with ⟨_, h0⟩ | ⟨g, cap, cur, _, _, _, h2, h3, _⟩
  · omega
  · simp only [maxLen] at h3; omega
def oneB (x : Int) : ByteArray := strOfNums [x]
end Go.Proofs.Ytjnefjggmeieaaa.Opening
