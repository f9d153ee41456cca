/- The numbers of package api that the layer of meetings leans on are the document's (PostNumbers): the example at the head holds, and so do the constants. No condition. -/
import Derived.Test.YtokbonceeglciaaPrint2
namespace Go.Proofs.Ytokbonceeglciaa.Pure
open Go.RowKit Go.Proofs.Ytokbonceeglciaa.Print Go.Proofs.YtokbonceeglciaaW.PrintWords Go.Proofs.YtokbonceeglciaaW.PrintLast

theorem PostNumbers : squintlaw13_PostNumbers.Pure := by
  show squintlaw13_PostNumbers.f = some true
  kernel_rfl

end Go.Proofs.Ytokbonceeglciaa.Pure
