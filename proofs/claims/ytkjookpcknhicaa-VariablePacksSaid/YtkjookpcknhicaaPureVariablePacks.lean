/- The pure statement of VariablePacks: for every input the printed function answers true. No condition beyond the statement's own. -/
import Derived.Test.YtkjookpcknhicaaPGx5
import Derived.Test.YtkjookpcknhicaaPlainP
namespace Go.Proofs.Ytkjookpcknhicaa.Pure
open Go.RowKit Go.Proofs.Ytkjookpcknhicaa.PG Go.Proofs.YtkjookpcknhicaaW.PrintWords Go.Proofs.YtkjookpcknhicaaW.PrintLast

theorem VariablePacks : dasdlaw11_VariablePacks.Pure := fun a0 a1 l2 _ _ h _ => (Plain.packs_true a0 a1 l2 h).rounds

end Go.Proofs.Ytkjookpcknhicaa.Pure
