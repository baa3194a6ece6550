/- The pure statement of VariableReturns: for every input the printed function answers true. No condition beyond the statement's own. -/
import Derived.Test.YtkjookpcknhicaaPGx10
import Derived.Test.YtkjookpcknhicaaPlainB
namespace Go.Proofs.Ytkjookpcknhicaa.Pure
open Go.RowKit Go.Proofs.Ytkjookpcknhicaa.PG Go.Proofs.YtkjookpcknhicaaW.PrintWords Go.Proofs.YtkjookpcknhicaaW.PrintLast

theorem VariableReturns : dasdlaw11_VariableReturns.Pure := fun a0 a1 l2 _ _ h _ => (Plain.returns_true a0 a1 l2 h).rounds

end Go.Proofs.Ytkjookpcknhicaa.Pure
