/- Whole and short numbers are those that the document says, or the error is told. For all whole numbers. -/
import Derived.Test.YteoclecadpapfaaG12
import Derived.Test.YteoclecadpapfaaM7
namespace Go.Proofs.Yteoclecadpapfaa.Pure
open Go.RowKit Go.Proofs.Yteoclecadpapfaa.G Go.Proofs.YteoclecadpapfaaW.PrintWords Go.Proofs.YteoclecadpapfaaW.PrintLast

theorem GramWholes : psalterylaw19_GramWholes.Pure := by
  intro n v bits h1 h2 h3
  have hn := wf_i64 h1
  refine ⟨1, ?_⟩
  have hs : ∃ s, dgram_Short.f n bits = some s ∧ psalteryref19_Short.f n bits = some s := by
    unfold dgram_Short.f psalteryref19_Short.f
    by_cases h : n < 0 ∨ bits < 1 ∨ bits > 32
    · rw [if_pos h]; exact ⟨_, rfl, rfl⟩
    · rw [if_neg h, if_pos (by omega)]; exact ⟨_, rfl, rfl⟩
  obtain ⟨s, hs1, hs2⟩ := hs
  unfold psalterylaw19_GramWholes.f
  rw [hs1, Option.bind_some, hs2, Option.bind_some, if_pos rfl, dgram_Whole.f]
  by_cases hf : G.Fair n v bits
  · have e1 : ¬ bits < 1 := by have := hf.2.2.1; omega
    have e2 : ¬ bits > 32 := by have := hf.2.2.2.1; omega
    rw [if_pos hf, Option.bind_some, if_neg e1, if_neg e2, psalteryref19_Fair.f, Option.bind_some, decide_eq_true hf]
    simp only [psalterylaw19_GramWholes.j0]
    rw [if_neg (by simp), psalteryref19_Whole.f, if_pos hf, Option.bind_some, if_pos rfl]
    rfl
  · rw [if_neg hf, Option.bind_some, psalteryref19_Fair.f, Option.bind_some, decide_eq_false hf]
    have hj : psalterylaw19_GramWholes.j0 1 n v bits 0 1 true = some true := by
      rfl
    split
    · exact hj
    · split
      · exact hj
      · exact hj

end Go.Proofs.Yteoclecadpapfaa.Pure
