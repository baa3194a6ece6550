/- The pure statement of VariableUnpacks: for every input the printed function answers true. No condition beyond the statement's own. -/
import Derived.Test.YtkjookpcknhicaaPGx9
import Derived.Test.YtkjookpcknhicaaPlainL
namespace Go.Proofs.Ytkjookpcknhicaa.Pure
open Go.RowKit Go.Proofs.Ytkjookpcknhicaa.PG Go.Proofs.YtkjookpcknhicaaW.PrintWords Go.Proofs.YtkjookpcknhicaaW.PrintLast

theorem VariableUnpacks : dasdlaw11_VariableUnpacks.Pure := fun a0 a1 a2 _ _ _ => (Plain.unpacks_true a0 a1 a2).rounds

end Go.Proofs.Ytkjookpcknhicaa.Pure
