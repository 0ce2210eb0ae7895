/- What was read has just the bytes that it was read from. For every text; beyond 5000 bytes the law asks nothing. -/
import Derived.Test.YteoclecadpapfaaG14
import Derived.Test.YteoclecadpapfaaM8
namespace Go.Proofs.Yteoclecadpapfaa.Pure
open Go.RowKit Go.Proofs.Yteoclecadpapfaa.G Go.Proofs.YteoclecadpapfaaW.PrintWords Go.Proofs.YteoclecadpapfaaW.PrintLast

theorem gram_same (a b : Int) (c : Bool) (l : List Int) : psalteryref19_Same.f a b c l a b c l = some true := by
  unfold psalteryref19_Same.f
  rw [if_pos rfl, if_pos rfl, if_pos (by simp)]
  simp

theorem GramOnly : psalterylaw19_GramOnly.Pure := by
  intro l h1 h2 h3
  have hb := okB_wf h3
  obtain ⟨t, ht⟩ : ∃ t, t = tabL := ⟨_, rfl⟩
  have hT : sums_Table.f = some t := by rw [ht]; rfl
  have hl0 : t.length = 256 := by rw [ht]; exact tabL_length
  clear ht
  unfold psalterylaw19_GramOnly.f psalterylaw19_great.f
  rw [Option.bind_some]
  by_cases hg : decide ((l.length : Int) > 5000) = true
  · rw [if_pos hg]; rfl
  · have hg' : l.length ≤ 5000 := by
      have := of_decide_eq_false (Bool.eq_false_iff.mpr hg)
      omega
    have h4 : ([] : List Int).length + l.length < 140737488355328 := by rw [List.length_nil]; omega
    rw [if_neg hg, hT, Option.bind_some, Option.bind_some, if_pos h4, List.nil_append, dgram_Read_eq t l hl0 hb (by omega), Option.bind_some]
    have hback := readG_back t l hb
    have hzero := readG_zero t l
    generalize readG t l = r at hback hzero ⊢
    obtain ⟨s, p, m, b, e⟩ := r
    simp only at hback hzero ⊢
    by_cases he : e = 0
    · obtain ⟨hr, hbb⟩ := hback he
      rw [if_pos he, dgram_Write.f, if_pos ⟨hr, hl0⟩, Option.bind_some]
      simp only [hbb, if_true]
      rfl
    · obtain ⟨z1, z2, z3, z4⟩ := hzero he
      rw [if_neg he, z1, z2, z3, z4, psalterylaw19_As.f, Option.bind_some, gram_same, Option.bind_some, if_pos rfl]
      rfl

end Go.Proofs.Yteoclecadpapfaa.Pure
