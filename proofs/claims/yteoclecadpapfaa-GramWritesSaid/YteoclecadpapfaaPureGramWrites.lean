/- A datagram is written as the document says, or the error is told. For every table and every datagram of which the bytes are bytes; beyond the bounds the law asks nothing. -/
import Derived.Test.YteoclecadpapfaaG10
import Derived.Test.YteoclecadpapfaaM11
namespace Go.Proofs.Yteoclecadpapfaa.Pure
open Go.RowKit Go.Proofs.Yteoclecadpapfaa.G Go.Proofs.YteoclecadpapfaaW.PrintWords Go.Proofs.YteoclecadpapfaaW.PrintLast
theorem GramWrites (t : List Int) (a b : Int) (c : Bool) (l : List Int) (hl : okB l) : psalterylaw19_GramWrites.f 2 t a b c l = some true := by
  have hk : psalterylaw19_GramWrites.j0 2 t true a b c l = some true := rfl
  unfold psalterylaw19_GramWrites.f psalterylaw19_great.f
  rw [Option.bind_some]
  by_cases hg : decide ((l.length : Int) > 5000) = true
  · rw [if_pos hg]; exact hk
  · rw [if_neg hg]
    cases h1 : decide ((t.length : Int) > 1000) with
    | true => exact hk
    | false =>
      clear h1 hk
      simp only [psalterylaw19_GramWrites.j0]
      rw [if_neg (by simp), dgram_Write.f, dgram_Right.f, psalteryref19_Right.f, psalterylaw19_As.f]
      by_cases hr : gramRight a b c l = true ∧ t.length = 256
      · obtain ⟨h2, h3⟩ := hr
        have h4 : (t.length : Int) = 256 := by omega
        have hW := refWrite_eq t l a b c h3 hl h2
        rw [if_pos ⟨h2, h3⟩, Option.bind_some, Option.bind_some, Option.bind_some, Option.bind_some, if_neg (by simp), if_pos h4, Option.bind_some, Option.bind_some, h2]
        simp only [psalterylaw19_GramWrites.j1]
        rw [if_neg (by simp), psalterylaw19_As.f, Option.bind_some, hW, Option.bind_some, if_pos rfl, if_pos trivial]
        rfl
      · rw [if_neg hr, Option.bind_some, Option.bind_some, Option.bind_some, Option.bind_some, if_neg (by simp)]
        have hE : psalterylaw19_GramWrites.j1 1 t [] 1 true a b c l = some true := rfl
        by_cases h4 : (t.length : Int) = 256
        · have h2 : gramRight a b c l = false := by
            cases h : gramRight a b c l with
            | false => rfl
            | true => exact absurd ⟨h, by omega⟩ hr
          rw [if_pos h4, Option.bind_some, Option.bind_some, h2]
          exact hE
        · rw [if_neg h4]
          exact hE
end Go.Proofs.Yteoclecadpapfaa.Pure
