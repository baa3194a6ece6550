/- The pure statement of VariableStrict: for every input the printed function answers true. No condition beyond the statement's own. -/
import Derived.Test.YtkjookpcknhicaaPGx11
import Derived.Test.YtkjookpcknhicaaPlainL
namespace Go.Proofs.Ytkjookpcknhicaa.Pure
open Go.RowKit Go.Proofs.Ytkjookpcknhicaa.PG Go.Proofs.YtkjookpcknhicaaW.PrintWords Go.Proofs.YtkjookpcknhicaaW.PrintLast

theorem VariableStrict : dasdlaw11_VariableStrict.Pure := fun a0 a1 a2 _ _ _ => (Plain.strict_true a0 a1 a2).rounds

end Go.Proofs.Ytkjookpcknhicaa.Pure
