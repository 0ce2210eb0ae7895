/- Any bytes are read as the document says, or the error is told. For every table and all bytes; beyond the bounds the law asks nothing. -/
import Derived.Test.YteoclecadpapfaaG11
import Derived.Test.YteoclecadpapfaaM8
namespace Go.Proofs.Yteoclecadpapfaa.Pure
open Go.RowKit Go.Proofs.Yteoclecadpapfaa.G Go.Proofs.YteoclecadpapfaaW.PrintWords Go.Proofs.YteoclecadpapfaaW.PrintLast
theorem gramR_same (a b : Int) (c : Bool) (l : List Int) : psalteryref19_Same.f a b c l a b c l = some true := by
  unfold psalteryref19_Same.f
  rw [if_pos rfl, if_pos rfl, if_pos (by simp)]
  simp
theorem gramR_sum (t x : List Int) : Go.bits .xor .u32 (addI t 4294967295 x) 4294967295 = sumI t x := by
  unfold sumI
  exact bits_comm_xor _ _ _
theorem refRead_eq (t b : List Int) (hl : t.length = 256) (hb : okB b) (hn : b.length ≤ 5000) : psalteryref19_Read.f t b = some (readG t b) := by
  unfold psalteryref19_Read.f readG
  by_cases h2 : b.length < 11
  · rw [if_pos h2, if_pos (show (b.length : Int) < 11 by omega)]
  · rw [if_neg h2, if_neg (show ¬ (b.length : Int) < 11 by omega)]
    have e1 : wrap64 ((b.length : Int) - 4) = ((b.length - 4 : Nat) : Int) := by rw [wrap64_of (by omega) (by omega)]; omega
    have h3 : (0 : Int) ≤ ((b.length - 4 : Nat) : Int) := by omega
    have h4 : ((b.length - 4 : Nat) : Int) ≤ (b.length : Int) := by omega
    have h5 : (b.drop (b.length - 4)).length ≤ 7 := by rw [List.length_drop]; omega
    have h6 : (b.take 2).length ≤ 7 := by rw [List.length_take]; omega
    have h7 : ((b.take 6).drop 2).length ≤ 7 := by rw [List.length_drop, List.length_take]; omega
    have hs := sumI_range t (b.take (b.length - 4))
    have e2 : wrap64 (sumI t (b.take (b.length - 4))) = sumI t (b.take (b.length - 4)) := wrap64_of (by omega) (by omega)
    have h8' : (b.take (b.length - 4)).length ≤ 140737488351232 := by rw [List.length_take]; omega
    have hr6 : 0 ≤ rd b (6 : Int) ∧ rd b (6 : Int) < 256 := rd_ok hb 6 (by omega)
    simp only [e1, Int.toNat_natCast]
    rw [if_pos h3, if_pos h4, psalteryref19_value.f, if_pos ⟨okB_drop hb _, h5⟩, Option.bind_some, psalteryref02_Add.f, if_pos ⟨hl, okB_take hb _, ⟨by omega, by omega⟩, h8'⟩, Option.bind_some]
    simp only [gramR_sum, e2]
    by_cases h8 : valI (b.drop (b.length - 4)) = sumI t (b.take (b.length - 4))
    · rw [if_pos h8, if_neg (show ¬ (valI (b.drop (b.length - 4)) ≠ sumI t (b.take (b.length - 4))) from fun h => h h8), if_pos (show (2 : Int) ≤ (b.length : Int) by omega), psalteryref19_value.f, if_pos ⟨okB_take hb _, h6⟩, Option.bind_some, if_pos (show (2 : Nat) ≤ 6 by omega), if_pos (show (6 : Int) ≤ (b.length : Int) by omega), psalteryref19_value.f, if_pos ⟨okB_drop (okB_take hb _) _, h7⟩, Option.bind_some, if_pos (show (6 : Int) < (b.length : Int) by omega), if_pos (show (7 : Int) ≤ ((b.length - 4 : Nat) : Int) by omega), Option.bind_some, psalteryref19_Right.f, Option.bind_some]
      have key : ∀ g : Bool, (if g = true then (some (valI (b.take 2), valI ((b.take 6).drop 2), rd b 6 == 1, (b.take (b.length - 4)).drop 7, (0 : Int))) else some (0, 0, false, [], 2)) = some (if g = false then (0, 0, false, [], 2) else (valI (b.take 2), valI ((b.take 6).drop 2), rd b 6 == 1, (b.take (b.length - 4)).drop 7, (0 : Int))) := fun g => by cases g <;> rfl
      by_cases h9 : rd b 6 > 1
      · rw [if_neg (show ¬ rd b 6 = 0 by omega), if_neg (show ¬ rd b 6 = 1 by omega), if_pos (.inl h9)]
      · have h0 := hr6.1
        have hc : ∀ P : Prop, (rd b 6 > 1 ∨ P) ↔ P := fun P => ⟨fun h => h.resolve_left h9, .inr⟩
        simp only [hc]
        by_cases h10 : rd b 6 = 0
        · rw [if_pos h10]
          exact key _
        · rw [if_neg h10, if_pos (show rd b 6 = 1 by omega)]
          exact key _
    · rw [if_neg h8, if_pos h8]
theorem GramReads : psalterylaw19_GramReads.Pure := by
  intro t b h1 h2 h3 h4 h5 h6
  have hb := okB_wf h6
  refine ⟨1, ?_⟩
  have hk : psalterylaw19_GramReads.j0 1 t b true = some true := rfl
  unfold psalterylaw19_GramReads.f psalterylaw19_great.f
  rw [Option.bind_some]
  by_cases hg : decide ((b.length : Int) > 5000) = true
  · rw [if_pos hg]; exact hk
  · have hg' : b.length ≤ 5000 := by
      have := of_decide_eq_false (Bool.eq_false_iff.mpr hg)
      omega
    rw [if_neg hg]
    cases h7 : decide ((t.length : Int) > 1000) with
    | true => exact hk
    | false =>
      clear h7 hk
      have e1 : ([] : List Int).length + b.length < 140737488355328 := by rw [List.length_nil]; omega
      simp only [psalterylaw19_GramReads.j0]
      rw [if_neg (by simp), Option.bind_some, if_pos e1, List.nil_append]
      by_cases ht : t.length = 256
      · have hR := dgram_Read_eq t b ht hb (by omega)
        have hQ := refRead_eq t b ht hb hg'
        rw [hR, Option.bind_some, if_pos (by omega), hQ, Option.bind_some]
        generalize readG t b = r
        obtain ⟨s, p, m, l, e⟩ := r
        simp only [psalterylaw19_As.f, Option.bind_some]
        rw [gramR_same, Option.bind_some, if_pos rfl, if_pos trivial]
        rfl
      · have hR : dgram_Read.f t b = some (0, 0, false, [], 1) := by
          unfold dgram_Read.f
          rw [if_neg (by omega)]
        rw [hR, Option.bind_some, if_neg (by omega)]
        simp only [psalterylaw19_As.f, Option.bind_some]
        rw [gramR_same, Option.bind_some, if_pos rfl, if_pos trivial]
        rfl
end Go.Proofs.Yteoclecadpapfaa.Pure
