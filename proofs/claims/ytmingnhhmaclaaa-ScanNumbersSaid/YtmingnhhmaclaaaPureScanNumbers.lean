/- The numbers of package api that the scanner leans on are the document's (ScanNumbers): the examples at the head hold, and so do the constants. No condition. -/
import Derived.Test.YtmingnhhmaclaaaPrint6
namespace Go.Proofs.Ytmingnhhmaclaaa.Pure
open Go.RowKit Go.Proofs.Ytmingnhhmaclaaa.Print Go.Proofs.YtmingnhhmaclaaaW.PrintWords Go.Proofs.YtmingnhhmaclaaaW.PrintLast

theorem ScanNumbers : squintlaw01_ScanNumbers.Pure := rfl

end Go.Proofs.Ytmingnhhmaclaaa.Pure
