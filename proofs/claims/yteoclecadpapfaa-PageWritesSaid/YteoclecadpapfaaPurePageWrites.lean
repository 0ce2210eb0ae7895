/- A page is written as the document says, or the error is told: for every table and every page; beyond the bounds the law asks nothing. -/
import Derived.Test.YteoclecadpapfaaG18
import Derived.Test.YteoclecadpapfaaM18
import Derived.Test.YteoclecadpapfaaM20
namespace Go.Proofs.Yteoclecadpapfaa.Pure
open Go.RowKit Go.Proofs.Yteoclecadpapfaa.G Go.Proofs.YteoclecadpapfaaW.PrintWords Go.Proofs.YteoclecadpapfaaW.PrintLast
theorem PageWrites (t : List Int) (s g : Int) (fi la co mo : Bool) (p : List (List Int)) (hp : okP p) : psalterylaw18_PageWrites.f 2 t s g fi la co mo p = some true := by
  have hk : psalterylaw18_PageWrites.j0 2 t true s g fi la co mo p = some true := rfl
  unfold psalterylaw18_PageWrites.f psalterylaw18_great.f
  rw [Option.bind_some]
  cases hg : greatB p with
  | true => exact hk
  | false =>
    rw [if_neg (by simp)]
    cases h1 : decide ((t.length : Int) > 1000) with
    | true => exact hk
    | false =>
      clear h1 hk
      obtain ⟨hs, hf⟩ := greatB_small p hg
      have hR : psalteryref18_Right.f s g fi la co mo p = some (pageRight s g mo p) := by
        unfold psalteryref18_Right.f
        exact if_pos hs
      have hW0 := page_Write_eq t s g fi la co mo p hg
      simp only [psalterylaw18_PageWrites.j0]
      rw [if_neg (by simp)]
      have hE : psalterylaw18_PageWrites.j1 1 t [] 1 true s g fi la co mo p = some true := rfl
      by_cases hr : pageRight s g mo p = true ∧ t.length = 256
      · obtain ⟨h2, h3⟩ := hr
        have h4 : (t.length : Int) = 256 := by omega
        have hW := refWriteP_eq t s g fi la co mo p h3 hs (by omega) hp h2
        rw [if_pos ⟨h2, h3⟩] at hW0
        rw [hW0, Option.bind_some, hR, psalterylaw18_As.f, Option.bind_some, Option.bind_some, if_pos h4, h2]
        simp only [psalterylaw18_PageWrites.j1]
        rw [if_neg (by simp), psalterylaw18_As.f, Option.bind_some, hW, Option.bind_some, if_pos rfl, if_pos trivial]
        rfl
      · rw [if_neg hr] at hW0
        rw [hW0, Option.bind_some, hR, psalterylaw18_As.f, Option.bind_some, Option.bind_some]
        by_cases h4 : (t.length : Int) = 256
        · have h2 : pageRight s g mo p = false := by
            cases h : pageRight s g mo p with
            | false => rfl
            | true => exact absurd ⟨h, by omega⟩ hr
          rw [if_pos h4, h2]
          exact hE
        · rw [if_neg h4]
          exact hE
end Go.Proofs.Yteoclecadpapfaa.Pure
