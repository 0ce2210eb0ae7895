/- By any table bytes make of any number what the document says, or the error is told. For every table, number and text; beyond 5000 bytes and tables of 1000 the law asks nothing. -/
import Derived.Test.YteoclecadpapfaaG5
import Derived.Test.YteoclecadpapfaaM2
namespace Go.Proofs.Yteoclecadpapfaa.Pure
open Go.RowKit Go.Proofs.Yteoclecadpapfaa.G Go.Proofs.YteoclecadpapfaaW.PrintWords Go.Proofs.YteoclecadpapfaaW.PrintLast

theorem adds_j0 (t : List Int) (c : Int) (l : List Int) (hb : okB l) (hn : l.length ≤ 140737488351232) (hc : 0 ≤ c ∧ c < 4294967296) (b : Bool) : psalterylaw02_SumAdds.j0 1 t c l b = some true := by
  have e1 : Go.bits .xor .u32 4294967295 c = Go.bits .xor .u32 c 4294967295 := bits_comm_xor _ _ _
  have e2 : sumI t l = Go.bits .xor .u32 (addI t 4294967295 l) 4294967295 := bits_comm_xor _ _ _
  simp only [psalterylaw02_SumAdds.j0]
  split
  · rfl
  · unfold sums_Add.f sums_Sum.f psalteryref02_Add.f sums_Begin.f sums_End.f psalterylaw02_knows.f
    by_cases hl : t.length = 256
    · have hl' : (t.length : Int) = 256 := by omega
      have h0 : (0 : Int) ≤ 4294967295 ∧ (4294967295 : Int) < 4294967296 := by omega
      simp only [if_pos hl, Option.bind_some, if_pos hl', if_pos (show t.length = 256 ∧ okB l ∧ (0 ≤ c ∧ c < 4294967296) ∧ l.length ≤ 140737488351232 from ⟨hl, hb, hc, hn⟩), if_pos (show t.length = 256 ∧ okB l ∧ ((0 : Int) ≤ 4294967295 ∧ (4294967295 : Int) < 4294967296) ∧ l.length ≤ 140737488351232 from ⟨hl, hb, h0, hn⟩), if_true, if_pos e2, if_pos e1]
    · have hl' : ¬ (t.length : Int) = 256 := by omega
      simp only [if_neg hl, Option.bind_some, if_neg hl', if_true]

theorem SumAdds : psalterylaw02_SumAdds.Pure := by
  intro t c l h1 h2 h3 h4 h5 h6 h7
  refine ⟨1, ?_⟩
  unfold psalterylaw02_SumAdds.f psalterylaw02_great.f
  rw [Option.bind_some]
  split
  · exact adds_j0 _ _ _ (okB_wf h7) (by omega) (wf_u32 h4) _
  · exact adds_j0 _ _ _ (okB_wf h7) (by omega) (wf_u32 h4) _

end Go.Proofs.Yteoclecadpapfaa.Pure
