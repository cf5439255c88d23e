/- Entries that come in, opened. No condition. -/
import Derived.Test.YtjnefjggmeieaaaMTx0
set_option linter.unusedVariables false
set_option linter.unusedSimpArgs false
namespace Go.Proofs.Ytjnefjggmeieaaa.MT
open Go.Proofs.Ytjnefjggmeieaaa.Opening
open Go.RowKit Go.Proofs.YtjnefjggmeieaaaW.PrintWords Go.Proofs.YtjnefjggmeieaaaW.PrintLast Go.Proofs.YtjnefjggmeieaaaW.PrintMore
theorem oS38 : Opn Try.prog 38 k38 gS38 := opn_struct (fun x : S38 => (x.f0, x.f1)) (fun p => ⟨p.1, p.2⟩) (fun _ => rfl) Try.underlying38 (by kernel_rfl) (opnF_cons rfl (by kernel_rfl) (opn_string Try.underlying9) (opnF_one rfl (by kernel_rfl) (opn_int Try.underlying36)))
end Go.Proofs.Ytjnefjggmeieaaa.MT
