/- What the document's writing of a right page answers: the same bytes. -/
import Derived.Test.YteoclecadpapfaaG56
import Derived.Test.YteoclecadpapfaaM13
namespace Go.Proofs.Yteoclecadpapfaa.G
open Go.RowKit Go.Proofs.YteoclecadpapfaaW.PrintWords Go.Proofs.YteoclecadpapfaaW.PrintMore
end Go.Proofs.Yteoclecadpapfaa.G
