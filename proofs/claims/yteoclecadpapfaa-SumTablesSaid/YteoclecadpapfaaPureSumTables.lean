/- The table is the one that the document says, at each place. For every place of eight bits. -/
import Derived.Test.YteoclecadpapfaaG3
namespace Go.Proofs.Yteoclecadpapfaa.Pure
open Go.RowKit Go.Proofs.Yteoclecadpapfaa.G Go.Proofs.YteoclecadpapfaaW.PrintWords Go.Proofs.YteoclecadpapfaaW.PrintLast

theorem SumTables : psalterylaw02_SumTables.Pure := by
  intro a0 h0
  have h1 : 0 ≤ a0 ∧ a0 < 256 := by
    simp [Lit.wf, IntKind.min, IntKind.max, IntKind.bits, IntKind.signed] at h0
    omega
  obtain ⟨n, rfl⟩ := Int.eq_ofNat_of_zero_le h1.1
  have hn : n < 256 := by omega
  have e1 : wrap64 (n : Int) = (n : Int) := by unfold wrap64; omega
  have e2 : (n : Int) % 4294967296 = (n : Int) := by omega
  obtain ⟨t, ht⟩ : ∃ t, t = tabL := ⟨_, rfl⟩
  have hT : sums_Table.f = some t := by rw [ht]; rfl
  have hl0 : t.length = 256 := by rw [ht]; exact tabL_length
  have hg : rd t (n : Int) = ((stepsN 8 n : Nat) : Int) := by rw [ht]; exact tabL_get n hn
  clear ht
  have hl : (t.length : Int) = 256 := by rw [hl0]; rfl
  have h3 : (n : Int) < (t.length : Int) := by rw [hl]; omega
  have h4 : (0 : Int) ≤ (n : Int) := by omega
  have h5 : 0 ≤ (n : Int) ∧ (n : Int) < 4294967296 := by omega
  unfold psalterylaw02_SumTables.f
  rw [hT, Option.bind_some, e1, e2, if_pos hl, if_pos h4, if_pos h3, psalteryref02_Entry.f, if_pos h5, Option.bind_some, Int.toNat_natCast, if_pos hg]
  rfl

end Go.Proofs.Yteoclecadpapfaa.Pure
