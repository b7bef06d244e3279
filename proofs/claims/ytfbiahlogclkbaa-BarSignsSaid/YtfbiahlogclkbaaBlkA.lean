/- The proof's texts BlkA: what the statement leads to. No condition is added. -/
import Derived.Test.YtfbiahlogclkbaaSetA
import Derived.Deep.MidRow
set_option linter.unusedVariables false
set_option linter.unusedSimpArgs false
namespace Go.Proofs.Ytfbiahlogclkbaa.H
open Go.RowKit Go.Proofs.YtfbiahlogclkbaaW.PrintWords Go.Proofs.YtfbiahlogclkbaaW.PrintLast Go.Proofs.YtfbiahlogclkbaaW.PrintMore Go.Proofs.Ytfbiahlogclkbaa.P

end Go.Proofs.Ytfbiahlogclkbaa.H
