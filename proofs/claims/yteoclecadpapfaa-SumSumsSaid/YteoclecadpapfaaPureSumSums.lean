/- By the table the sum of any bytes is the published one. For every text; beyond 5000 bytes the law asks nothing. -/
import Derived.Test.YteoclecadpapfaaG4
import Derived.Test.YteoclecadpapfaaM2
namespace Go.Proofs.Yteoclecadpapfaa.Pure
open Go.RowKit Go.Proofs.Yteoclecadpapfaa.G Go.Proofs.YteoclecadpapfaaW.PrintWords Go.Proofs.YteoclecadpapfaaW.PrintLast

theorem SumSums : psalterylaw02_SumSums.Pure := by
  intro l h1 h2 h3
  have hb := okB_wf h3
  have hn : l.length ≤ 140737488351232 := by omega
  obtain ⟨t, ht⟩ : ∃ t, t = tabL := ⟨_, rfl⟩
  have hT : sums_Table.f = some t := by rw [ht]; rfl
  have hl0 : t.length = 256 := by rw [ht]; exact tabL_length
  have hs : sums_Sum.f t l = some (sumI t l, 0) := by rw [sums_Sum.f, if_pos hl0]
  have hr : psalteryref02_Sum.f l = some (sumI t l) := by rw [psalteryref02_Sum.f, if_pos ⟨hb, hn⟩, ht]
  clear ht
  have h4 : ([] : List Int).length + l.length < 140737488355328 := by rw [List.length_nil]; omega
  unfold psalterylaw02_SumSums.f psalterylaw02_great.f
  rw [Option.bind_some]
  split
  · rfl
  · rw [hT, Option.bind_some, Option.bind_some, if_pos h4, List.nil_append, hs, Option.bind_some, hr, Option.bind_some, if_pos rfl, if_pos rfl]
    rfl

end Go.Proofs.Yteoclecadpapfaa.Pure
