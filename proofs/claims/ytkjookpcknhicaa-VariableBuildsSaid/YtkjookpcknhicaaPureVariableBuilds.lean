/- The pure statement of VariableBuilds: for every input the printed function answers true. No condition beyond the statement's own. -/
import Derived.Test.YtkjookpcknhicaaPGx13
import Derived.Test.YtkjookpcknhicaaPlainB
namespace Go.Proofs.Ytkjookpcknhicaa.Pure
open Go.RowKit Go.Proofs.Ytkjookpcknhicaa.PG Go.Proofs.YtkjookpcknhicaaW.PrintWords Go.Proofs.YtkjookpcknhicaaW.PrintLast

theorem VariableBuilds : dasdlaw11_VariableBuilds.Pure := fun a0 a1 l2 _ _ h _ => (Plain.builds_true a0 a1 l2 h).rounds

end Go.Proofs.Ytkjookpcknhicaa.Pure
