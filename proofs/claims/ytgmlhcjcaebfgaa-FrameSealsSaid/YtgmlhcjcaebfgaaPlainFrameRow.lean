/- Plain facts of many frames in a row, over lists of bytes. No condition. -/
import Derived.Test.YtgmlhcjcaebfgaaPlainFrameRef
namespace Go.Proofs.Ytgmlhcjcaebfgaa.Pure
open Go.RowKit Go.Proofs.Ytgmlhcjcaebfgaa.Opening Go.Proofs.Ytgmlhcjcaebfgaa.MA Go.Proofs.YtgmlhcjcaebfgaaW.PrintWords Go.Proofs.YtgmlhcjcaebfgaaW.PrintLast Go.Proofs.YtgmlhcjcaebfgaaW.PrintMore

def rowFrom (acc : List Int) : List S47 → List Int × Int
  | [] => (acc, 0)
  | x :: xs => if (sealOf x.f0 x.f1).2 = 0 then rowFrom (acc ++ (sealOf x.f0 x.f1).1) xs else ([], (sealOf x.f0 x.f1).2)
theorem sealOf_len (kind : Int) (body : List Int) : (sealOf kind body).1.length ≤ 8201 := by
  unfold sealOf
  split
  · simp
  · split
    · simp
    · rw [sealed_len]; omega
theorem sealOf_bytes (kind : Int) {body : List Int} (hb : Bytes body) : Bytes (sealOf kind body).1 := by
  unfold sealOf
  split
  · intro y hy; simp at hy
  · split
    · intro y hy; simp at hy
    · exact sealed_bytes (by omega) hb
theorem rdT_nat {p : List S47} {j : Nat} (h : j < p.length) : rd_T47 p (j : Int) = p[j] := by simp [rd_T47, h]
theorem row_l0 (l : List S47) (hl : l.length ≤ 9223372036854775807) (hb : ∀ x ∈ l, Bytes x.f1) : ∀ (d i : Nat) (acc : List Int), i + d = l.length → acc.length + 8201 * d < 140737488355328 →
    Ev (fun k => frame_Row.l0 k acc l (l.length : Int) (i : Int)) (rowFrom acc (l.drop i)) := by
  intro d
  induction d with
  | zero =>
    intro i acc hi _
    refine Ev.step (f := fun _ => some (acc, 0)) (fun k => ?_) ?_
    · simp only [frame_Row.l0]; rw [if_neg (by omega)]
    · rw [List.drop_eq_nil_of_le (by omega)]; exact Ev.now _
  | succ d ih =>
    intro i acc hi ha
    have hlt : i < l.length := by omega
    have hsl := sealOf_len l[i].f0 l[i].f1
    refine Ev.step (fun k => by simp only [frame_Row.l0]; rw [if_pos (by omega), if_pos (by omega), if_pos (by omega), rdT_nat hlt]) ?_
    refine Ev.bind (seal_ev _ _ (hb _ (List.getElem_mem hlt))) ?_
    rw [List.drop_eq_getElem_cons hlt]
    simp only [rowFrom]
    by_cases h : (sealOf l[i].f0 l[i].f1).2 = 0
    · rw [if_pos h]
      refine Ev.congr (fun k => if_pos h) ?_
      refine Ev.congr (fun k => if_pos (by omega)) ?_
      rw [wrap_succ (by omega)]
      exact ih (i + 1) _ (by omega) (by rw [List.length_append]; omega)
    · rw [if_neg h]
      exact Ev.congr (fun k => if_neg h) (Ev.now _)
theorem row_ev (l : List S47) (hl : 8201 * l.length < 140737488355328) (hb : ∀ x ∈ l, Bytes x.f1) : Ev (fun k => frame_Row.f k l) (rowFrom [] l) :=
  row_l0 l (by omega) hb l.length 0 [] (by omega) (by simpa using hl)
end Go.Proofs.Ytgmlhcjcaebfgaa.Pure
