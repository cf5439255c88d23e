/- Items of the document and of the queue. No condition. -/
import Derived.Test.YtpobioiagafpgaaTQueue2
import Derived.Test.YtpobioiagafpgaaPlainQueue
import Derived.Test.YtpobioiagafpgaaOpen
set_option linter.unusedVariables false
set_option linter.unusedSimpArgs false
namespace Go.Proofs.Ytpobioiagafpgaa.PQueuePlays
open Go.RowKit Go.Proofs.YtpobioiagafpgaaW.PrintWords Go.Proofs.YtpobioiagafpgaaW.PrintLast Go.Proofs.YtpobioiagafpgaaW.PrintMore
open Go.Proofs.Ytpobioiagafpgaa.Pure Go.Proofs.Ytpobioiagafpgaa.Opening
def gS28 (x : S28) : Prop := ((Lit.int .i64 x.f0).wf = true) ∧ (Lit.int .u64 x.f1).wf = true
theorem oS28 : Opn Try.prog 28 k28 gS28 := opn_struct (fun x : S28 => (x.f0, x.f1)) (fun p => ⟨p.1, p.2⟩) (fun _ => rfl) Try.underlying28 (by kernel_rfl) (opnF_cons rfl (by kernel_rfl) (opn_int Try.underlying2) (opnF_one rfl (by kernel_rfl) (opn_int Try.underlying26)))
def c28 (x : S28) : S31 := ⟨x.f0, x.f1⟩
theorem T31 : TO lt31 where
  irr := by rintro ⟨a, b⟩; simp [lt31]
  tr := by
    rintro ⟨a, b⟩ ⟨c, d⟩ ⟨e, f⟩ h1 h2
    simp [lt31] at *; omega
  tot := by
    rintro ⟨a, b⟩ ⟨c, d⟩ h1 h2
    simp [lt31] at *
    constructor <;> omega
def cnt (x : S31) (l : List S31) : Nat := l.countP (fun y => decide (y.f0 = x.f0) && decide (y.f1 = x.f1))
theorem cnt_snoc (x y : S31) (l : List S31) : cnt x (l ++ [y]) = cnt x l + if y.f0 = x.f0 ∧ y.f1 = x.f1 then 1 else 0 := by
  unfold cnt
  rw [List.countP_append]
  congr 1
  by_cases h : y.f0 = x.f0 ∧ y.f1 = x.f1 <;> simp [h]
theorem cnt_snocB (x y : S31) (l : List S31) : cnt x (l ++ [y]) = cnt x l + if (y.f0 == x.f0 && (y.f1 == x.f1)) = true then 1 else 0 := by
  rw [cnt_snoc]; congr 1
  by_cases h : y.f0 = x.f0 ∧ y.f1 = x.f1
  · rw [if_pos h, if_pos (by simp [h])]
  · rw [if_neg h, if_neg (by simpa using h)]
theorem cnt_le (x : S31) (l : List S31) : cnt x l ≤ l.length := List.countP_le_length
theorem cnt_perm {x : S31} {l l' : List S31} (h : l.Perm l') : cnt x l = cnt x l' := h.countP_eq _
theorem take_snoc31 (l : List S31) (k : Nat) (hk : k < l.length) : l.take (k + 1) = l.take k ++ [l.getD k z31] := by
  rw [List.take_succ_eq_append_getElem hk, List.getD_eq_getElem?_getD, List.getElem?_eq_getElem hk]; rfl
theorem rd31 (l : List S31) (k : Nat) : rd_T31 l (k : Int) = l.getD k z31 := by simp [rd_T31]
theorem rd28 (l : List S28) (k : Nat) (hk : k < l.length) : c28 (rd_T28 l (k : Int)) = (l.map c28).getD k z31 := by
  simp [rd_T28, List.getD_eq_getElem?_getD, hk]
theorem not_ahead {a b : S31} (h : Le lt31 a b) : ¬ b.f0 > a.f0 ∧ (b.f0 = a.f0 → ¬ b.f1 < a.f1) := by
  have : lt31 b a = false := h
  simp [lt31] at this
  omega
end Go.Proofs.Ytpobioiagafpgaa.PQueuePlays
