/- The pure statement of VariableWords: for every input the printed function answers true. No condition beyond the statement's own. -/
import Derived.Test.YtkjookpcknhicaaPGx6
import Derived.Test.YtkjookpcknhicaaPlainP
namespace Go.Proofs.Ytkjookpcknhicaa.Pure
open Go.RowKit Go.Proofs.Ytkjookpcknhicaa.PG Go.Proofs.YtkjookpcknhicaaW.PrintWords Go.Proofs.YtkjookpcknhicaaW.PrintLast

theorem VariableWords : dasdlaw11_VariableWords.Pure := fun a0 a1 _ _ => (Plain.words_true a0 a1).rounds

end Go.Proofs.Ytkjookpcknhicaa.Pure
