/- A datagram written is read back. For every datagram of which the lists are no longer than memory; beyond 5000 bytes the law asks nothing. -/
import Derived.Test.YteoclecadpapfaaG13
import Derived.Test.YteoclecadpapfaaM9
namespace Go.Proofs.Yteoclecadpapfaa.Pure
open Go.RowKit Go.Proofs.Yteoclecadpapfaa.G Go.Proofs.YteoclecadpapfaaW.PrintWords Go.Proofs.YteoclecadpapfaaW.PrintLast
theorem gram_same' (a b : Int) (c : Bool) (l : List Int) : psalteryref19_Same.f a b c l a b c l = some true := by
  unfold psalteryref19_Same.f
  rw [if_pos rfl, if_pos rfl, if_pos (by simp)]
  simp
theorem GramBack (a b : Int) (c : Bool) (l : List Int) (hl : okB l) : psalterylaw19_GramBack.f a b c l = some true := by
  obtain ⟨t, ht⟩ : ∃ t, t = tabL := ⟨_, rfl⟩
  have hT : sums_Table.f = some t := by rw [ht]; rfl
  have hl0 : t.length = 256 := by rw [ht]; exact tabL_length
  clear ht
  unfold psalterylaw19_GramBack.f psalterylaw19_great.f
  rw [Option.bind_some]
  by_cases hg : decide ((l.length : Int) > 5000) = true
  · rw [if_pos hg]; rfl
  · rw [if_neg hg, hT, Option.bind_some]
    cases hr : gramRight a b c l with
    | true =>
      have hn := gramBytes_length t a b c l
      have h5 : l.length ≤ 400 := ((gramRight_iff a b c l).mp hr).2.2.2.2.1
      rw [dgram_Write.f, if_pos ⟨hr, hl0⟩, Option.bind_some]
      simp only
      rw [if_pos trivial, dgram_Read_eq t _ hl0 (okB_gram t a b c l hl) (by omega), Option.bind_some, readG_gram t a b c l hr]
      simp only [psalterylaw19_As.f, Option.bind_some, gram_same', if_true]
      rfl
    | false =>
      rw [dgram_Write.f, if_neg (fun h => by rw [hr] at h; exact absurd h.1 (by simp)), Option.bind_some]
      simp only
      rw [if_neg (by decide), if_pos (by simp)]
      rfl
end Go.Proofs.Yteoclecadpapfaa.Pure
