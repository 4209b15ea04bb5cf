/- DiskPlans: its walk. -/
import Derived.Test.YtkhopknpadncdaaD5
namespace Go.Proofs.Ytkhopknpadncdaa
open Go Go.RowKit Go.Maps Go.Proofs.YtkhopknpadncdaaW.PrintWords Go.Proofs.Ytkhopknpadncdaa.PDiskMemory Go.Proofs.YtkhopknpadncdaaW.PrintMore
set_option linter.unusedVariables false

end Go.Proofs.Ytkhopknpadncdaa
