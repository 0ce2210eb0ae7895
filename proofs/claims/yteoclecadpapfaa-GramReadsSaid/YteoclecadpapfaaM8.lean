/- What reading a datagram answers, plainly told; and that what was read has just the bytes that it was read from. -/
import Derived.Test.YteoclecadpapfaaG46
import Derived.Test.YteoclecadpapfaaG41
namespace Go.Proofs.Yteoclecadpapfaa.G
open Go.RowKit Go.Proofs.YteoclecadpapfaaW.PrintWords Go.Proofs.YteoclecadpapfaaW.PrintMore
/-- Bytes as a datagram: its parts, and the error. -/
def readG (t b : List Int) : Int × Int × Bool × List Int × Int :=
  if b.length < 11 then (0, 0, false, [], 4)
  else if valI (b.drop (b.length - 4)) ≠ sumI t (b.take (b.length - 4)) then (0, 0, false, [], 6)
  else if rd b 6 > 1 ∨ gramRight (valI (b.take 2)) (valI ((b.take 6).drop 2)) (rd b 6 == 1) ((b.take (b.length - 4)).drop 7) = false then (0, 0, false, [], 2)
  else (valI (b.take 2), valI ((b.take 6).drop 2), rd b 6 == 1, (b.take (b.length - 4)).drop 7, 0)
theorem dgram_Read_eq (t b : List Int) (hl : t.length = 256) (hb : okB b) (hn : b.length ≤ 70368744177664) : dgram_Read.f t b = some (readG t b) := by
  have h1 : (t.length : Int) = 256 := by omega
  unfold dgram_Read.f readG
  rw [if_pos h1]
  by_cases h2 : b.length < 11
  · rw [if_pos h2, if_pos (show (b.length : Int) < 11 by omega)]
  · rw [if_neg h2, if_neg (show ¬ (b.length : Int) < 11 by omega)]
    have e1 : wrap64 ((b.length : Int) - 4) = ((b.length - 4 : Nat) : Int) := by rw [wrap64_of (by omega) (by omega)]; omega
    have h3 : (0 : Int) ≤ ((b.length - 4 : Nat) : Int) := by omega
    have h4 : ((b.length - 4 : Nat) : Int) ≤ (b.length : Int) := by omega
    have h5 : (b.drop (b.length - 4)).length ≤ 7 := by rw [List.length_drop]; omega
    have h6 : (b.take 2).length ≤ 7 := by rw [List.length_take]; omega
    have h7 : ((b.take 6).drop 2).length ≤ 7 := by rw [List.length_drop, List.length_take]; omega
    have hs := sumI_range t (b.take (b.length - 4))
    have e2 : wrap64 (sumI t (b.take (b.length - 4))) = sumI t (b.take (b.length - 4)) := wrap64_of (by omega) (by omega)
    simp only [e1, Int.toNat_natCast]
    rw [if_pos h3, if_pos h4, sums_Sum.f, if_pos hl, Option.bind_some, dgram_get.f, if_pos ⟨okB_drop hb _, h5⟩, Option.bind_some]
    simp only [e2]
    by_cases h8 : valI (b.drop (b.length - 4)) = sumI t (b.take (b.length - 4))
    · rw [if_pos h8, if_neg (show ¬ (valI (b.drop (b.length - 4)) ≠ sumI t (b.take (b.length - 4))) from fun h => h h8), if_pos (show (2 : Int) ≤ (b.length : Int) by omega), dgram_get.f, if_pos ⟨okB_take hb _, h6⟩, Option.bind_some, if_pos (show (2 : Nat) ≤ 6 by omega), if_pos (show (6 : Int) ≤ (b.length : Int) by omega), dgram_get.f, if_pos ⟨okB_drop (okB_take hb _) _, h7⟩, Option.bind_some, if_pos (show (6 : Int) < (b.length : Int) by omega), Option.bind_some, if_pos (show (7 : Int) ≤ ((b.length - 4 : Nat) : Int) by omega), if_pos ?_, Option.bind_some, List.nil_append, dgram_Right.f, Option.bind_some]
      · by_cases h9 : rd b 6 > 1
        · rw [if_pos h9, if_pos (.inl h9)]
        · rw [if_neg h9]
          cases h10 : gramRight (valI (b.take 2)) (valI ((b.take 6).drop 2)) (rd b 6 == 1) ((b.take (b.length - 4)).drop 7) with
          | true => rw [if_pos rfl, if_neg (fun h => h.elim h9 (by simp))]
          | false => rw [if_neg (by simp), if_pos (.inr rfl)]
      · simp only [List.length_nil, List.length_drop, List.length_take]
        omega
    · rw [if_neg h8, if_pos h8]
theorem take_parts (b : List Int) (h : 11 ≤ b.length) : b.take (b.length - 4) = b.take 2 ++ (b.take 6).drop 2 ++ [rd b 6] ++ (b.take (b.length - 4)).drop 7 := by
  have h1 : (b.take (b.length - 4)).take 7 = b.take 7 := by rw [List.take_take, Nat.min_eq_left (by omega)]
  have h2 : b.take 7 = b.take 6 ++ [rd b 6] := take_succ_rd b 6 (by omega)
  have h3 : b.take 6 = b.take 2 ++ (b.take 6).drop 2 := by
    have h4 : (b.take 6).take 2 = b.take 2 := by rw [List.take_take, Nat.min_eq_left (by omega)]
    rw [← h4]
    exact (List.take_append_drop 2 (b.take 6)).symm
  rw [← h3, ← h2, ← h1, List.take_append_drop]
/-- What was read, written again, is what it was read from. -/
theorem readG_back (t b : List Int) (hb : okB b) (h : (readG t b).2.2.2.2 = 0) : gramRight (readG t b).1 (readG t b).2.1 (readG t b).2.2.1 (readG t b).2.2.2.1 = true ∧ gramBytes t (readG t b).1 (readG t b).2.1 (readG t b).2.2.1 (readG t b).2.2.2.1 = b := by
  unfold readG at h ⊢
  by_cases h2 : b.length < 11
  · rw [if_pos h2] at h; exact absurd h (by decide)
  · rw [if_neg h2] at h ⊢
    by_cases h8 : valI (b.drop (b.length - 4)) = sumI t (b.take (b.length - 4))
    · rw [if_neg (fun h => h h8)] at h ⊢
      by_cases h9 : rd b 6 > 1 ∨ gramRight (valI (b.take 2)) (valI ((b.take 6).drop 2)) (rd b 6 == 1) ((b.take (b.length - 4)).drop 7) = false
      · rw [if_pos h9] at h; exact absurd h (by decide)
      · rw [if_neg h9]
        have h10 : gramRight (valI (b.take 2)) (valI ((b.take 6).drop 2)) (rd b 6 == 1) ((b.take (b.length - 4)).drop 7) = true := by
          cases hx : gramRight (valI (b.take 2)) (valI ((b.take 6).drop 2)) (rd b 6 == 1) ((b.take (b.length - 4)).drop 7) with
          | true => rfl
          | false => exact absurd (.inr hx) h9
        refine ⟨h10, ?_⟩
        have e1 : lowI (valI (b.take 2)) 2 = b.take 2 := by
          have := lowI_val (b.take 2) (okB_take hb 2)
          rwa [List.length_take, Nat.min_eq_left (by omega)] at this
        have e2 : lowI (valI ((b.take 6).drop 2)) 4 = (b.take 6).drop 2 := by
          have := lowI_val ((b.take 6).drop 2) (okB_drop (okB_take hb 6) 2)
          rwa [List.length_drop, List.length_take, Nat.min_eq_left (by omega)] at this
        have h6 : 0 ≤ rd b (6 : Int) ∧ rd b (6 : Int) < 256 := rd_ok hb 6 (by omega)
        have e3 : (if (rd b 6 == 1) = true then (1 : Int) else 0) = rd b 6 := by
          have : ¬ rd b 6 > 1 := fun h => h9 (.inl h)
          rcases (by have := h6.1; omega : rd b 6 = 0 ∨ rd b 6 = 1) with hx | hx
          · rw [hx]; rfl
          · rw [hx]; rfl
        have e4 : gramHead (valI (b.take 2)) (valI ((b.take 6).drop 2)) (rd b 6 == 1) ((b.take (b.length - 4)).drop 7) = b.take (b.length - 4) := by
          rw [gramHead, e1, e2, e3, ← take_parts b (by omega)]
        have e5 : lowI (sumI t (b.take (b.length - 4))) 4 = b.drop (b.length - 4) := by
          rw [← h8]
          have := lowI_val (b.drop (b.length - 4)) (okB_drop hb _)
          rwa [List.length_drop, show b.length - (b.length - 4) = 4 by omega] at this
        rw [gramBytes, e4, e5, List.take_append_drop]
    · rw [if_pos h8] at h; exact absurd h (by decide)
/-- With an error all else is zero. -/
theorem readG_zero (t b : List Int) (h : ¬ (readG t b).2.2.2.2 = 0) : (readG t b).1 = 0 ∧ (readG t b).2.1 = 0 ∧ (readG t b).2.2.1 = false ∧ (readG t b).2.2.2.1 = [] := by
  unfold readG at h ⊢
  by_cases h2 : b.length < 11
  · rw [if_pos h2]; exact ⟨rfl, rfl, rfl, rfl⟩
  · rw [if_neg h2] at h ⊢
    by_cases h8 : valI (b.drop (b.length - 4)) = sumI t (b.take (b.length - 4))
    · rw [if_neg (fun h => h h8)] at h ⊢
      by_cases h9 : rd b 6 > 1 ∨ gramRight (valI (b.take 2)) (valI ((b.take 6).drop 2)) (rd b 6 == 1) ((b.take (b.length - 4)).drop 7) = false
      · rw [if_pos h9]; exact ⟨rfl, rfl, rfl, rfl⟩
      · rw [if_neg h9] at h; exact absurd rfl h
    · rw [if_pos h8]; exact ⟨rfl, rfl, rfl, rfl⟩
end Go.Proofs.Yteoclecadpapfaa.G
