/- Pages that are alike; writing, answered. -/
import Derived.Test.YteoclecadpapfaaG33
import Derived.Test.YteoclecadpapfaaG36
import Derived.Test.YteoclecadpapfaaG32
namespace Go.Proofs.Yteoclecadpapfaa.G
open Go.RowKit Go.Proofs.YteoclecadpapfaaW.PrintWords Go.Proofs.YteoclecadpapfaaW.PrintMore
end Go.Proofs.Yteoclecadpapfaa.G
