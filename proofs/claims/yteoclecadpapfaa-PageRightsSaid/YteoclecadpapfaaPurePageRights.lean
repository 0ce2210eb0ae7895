/- Which pages are right: for every page; beyond the bounds the law asks nothing. -/
import Derived.Test.YteoclecadpapfaaG17
import Derived.Test.YteoclecadpapfaaM13
namespace Go.Proofs.Yteoclecadpapfaa.Pure
open Go.RowKit Go.Proofs.Yteoclecadpapfaa.G Go.Proofs.YteoclecadpapfaaW.PrintWords Go.Proofs.YteoclecadpapfaaW.PrintLast
theorem PageRights (s g : Int) (fi la co mo : Bool) (p : List (List Int)) : psalterylaw18_PageRights.f s g fi la co mo p = some true := by
  unfold psalterylaw18_PageRights.f psalterylaw18_great.f psalterylaw18_As.f
  rw [Option.bind_some]
  cases hg : greatB p with
  | true => rfl
  | false =>
    have hs := (greatB_small p hg).1
    rw [if_neg (by simp), page_Right.f, if_pos hs, Option.bind_some, Option.bind_some, psalteryref18_Right.f, if_pos hs, Option.bind_some, if_pos (by simp)]
    rfl
end Go.Proofs.Yteoclecadpapfaa.Pure
