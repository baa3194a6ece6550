/- The pure statement of VariableAdds: for every input the printed function answers true. No condition beyond the statement's own. -/
import Derived.Test.YtkjookpcknhicaaPGx12
import Derived.Test.YtkjookpcknhicaaPlainB
namespace Go.Proofs.Ytkjookpcknhicaa.Pure
open Go.RowKit Go.Proofs.Ytkjookpcknhicaa.PG Go.Proofs.YtkjookpcknhicaaW.PrintWords Go.Proofs.YtkjookpcknhicaaW.PrintLast

theorem VariableAdds : dasdlaw11_VariableAdds.Pure := fun a0 a1 a2 a3 _ _ _ _ => (Plain.adds_true a0 a1 a2 a3).rounds

end Go.Proofs.Ytkjookpcknhicaa.Pure
