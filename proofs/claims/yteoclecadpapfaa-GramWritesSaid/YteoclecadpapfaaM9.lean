/- A right datagram, written and read again; and bytes whose sum is another one are refused as changed. -/
import Derived.Test.YteoclecadpapfaaM8
namespace Go.Proofs.Yteoclecadpapfaa.G
open Go.RowKit Go.Proofs.YteoclecadpapfaaW.PrintWords Go.Proofs.YteoclecadpapfaaW.PrintMore
theorem gramRight_iff (a b : Int) (c : Bool) (l : List Int) : gramRight a b c l = true ↔ (0 ≤ a ∧ a ≤ 65535 ∧ 0 ≤ b ∧ b ≤ 4294967295 ∧ l.length ≤ 400 ∧ (c = true → l.length = 0)) := by
  unfold gramRight
  exact decide_eq_true_iff
theorem okB_head (a b : Int) (c : Bool) (l : List Int) (hl : okB l) : okB (gramHead a b c l) := by
  intro x hx
  unfold gramHead at hx
  rw [List.mem_append, List.mem_append, List.mem_append] at hx
  rcases hx with ((hx | hx) | hx) | hx
  · exact lowI_ok _ _ x hx
  · exact lowI_ok _ _ x hx
  · rw [List.mem_singleton] at hx
    subst hx
    cases c
    · exact ⟨Int.le_refl _, by decide⟩
    · exact ⟨by decide, by decide⟩
  · exact hl x hx
theorem okB_gram (t : List Int) (a b : Int) (c : Bool) (l : List Int) (hl : okB l) : okB (gramBytes t a b c l) := by
  intro x hx
  unfold gramBytes at hx
  rw [List.mem_append] at hx
  rcases hx with hx | hx
  · exact okB_head a b c l hl x hx
  · exact lowI_ok _ _ x hx
/-- Reading bytes that end with the four bytes of a number. -/
theorem readG_tail (t y : List Int) (v : Int) (hv : 0 ≤ v ∧ v < 4294967296) (hy : 7 ≤ y.length) :
    readG t (y ++ lowI v 4) = (if v ≠ sumI t y then (0, 0, false, [], 6)
      else if rd y 6 > 1 ∨ gramRight (valI (y.take 2)) (valI ((y.take 6).drop 2)) (rd y 6 == 1) (y.drop 7) = false then (0, 0, false, [], 2)
      else (valI (y.take 2), valI ((y.take 6).drop 2), rd y 6 == 1, y.drop 7, 0)) := by
  have e0 : (y ++ lowI v 4).length = y.length + 4 := by rw [List.length_append, lowI_length]
  have e1 : (y ++ lowI v 4).length - 4 = y.length := by omega
  have e2 : (y ++ lowI v 4).drop y.length = lowI v 4 := List.drop_left
  have e3 : (y ++ lowI v 4).take y.length = y := List.take_left
  have e4 : (y ++ lowI v 4).take 2 = y.take 2 := List.take_append_of_le_length (by omega)
  have e5 : (y ++ lowI v 4).take 6 = y.take 6 := List.take_append_of_le_length (by omega)
  have e6 : rd (y ++ lowI v 4) 6 = rd y 6 := by
    unfold rd
    rw [List.getD_eq_getElem?_getD, List.getD_eq_getElem?_getD, List.getElem?_append_left (show Int.toNat 6 < y.length from by have : Int.toNat 6 = 6 := rfl; omega)]
  have e7 : valI (lowI v 4) = v := valI_low v 4 hv.1 (by have : (2 : Int) ^ (8 * 4) = 4294967296 := by decide
                                                         omega)
  unfold readG
  rw [if_neg (by omega), e1, e2, e3, e4, e5, e6, e7]
theorem readG_gram (t : List Int) (a b : Int) (c : Bool) (l : List Int) (hr : gramRight a b c l = true) : readG t (gramBytes t a b c l) = (a, b, c, l, 0) := by
  obtain ⟨h1, h2, h3, h4, h5, h6⟩ := (gramRight_iff a b c l).mp hr
  have hn := gramHead_length a b c l
  unfold gramBytes
  rw [readG_tail t _ _ (sumI_range _ _) (by omega)]
  have l2 : (lowI a 2).length = 2 := lowI_length _ _
  have l4 : (lowI b 4).length = 4 := lowI_length _ _
  have e1 : (gramHead a b c l).take 2 = lowI a 2 := by
    unfold gramHead
    rw [List.append_assoc, List.append_assoc]
    exact List.take_left' l2
  have e2 : (gramHead a b c l).take 6 = lowI a 2 ++ lowI b 4 := by
    unfold gramHead
    rw [List.append_assoc]
    exact List.take_left' (by rw [List.length_append, l2, l4])
  have e3 : ((gramHead a b c l).take 6).drop 2 = lowI b 4 := by
    rw [e2]
    exact List.drop_left' l2
  have e4 : (gramHead a b c l).drop 7 = l := by
    unfold gramHead
    exact List.drop_left' (by simp [l2, l4])
  have e5 : rd (gramHead a b c l) 6 = if c then 1 else 0 := by
    unfold gramHead rd
    rw [List.append_assoc, List.getD_eq_getElem?_getD, List.getElem?_append_right (by rw [List.length_append, l2, l4]; decide)]
    rw [List.length_append, l2, l4]
    rfl
  have p2 : (2 : Int) ^ (8 * 2) = 65536 := by decide
  have p4 : (2 : Int) ^ (8 * 4) = 4294967296 := by decide
  have v2 : valI (lowI a 2) = a := valI_low a 2 h1 (by omega)
  have v4 : valI (lowI b 4) = b := valI_low b 4 h3 (by omega)
  rw [if_neg (fun h => h rfl), e1, e3, e4, e5, v2, v4]
  have e6 : ((if c = true then (1 : Int) else 0) == 1) = c := by cases c <;> rfl
  rw [e6, hr, if_neg]
  rintro (h | h)
  · cases c
    · exact absurd h (by decide)
    · exact absurd h (by decide)
  · exact absurd h (by simp)
end Go.Proofs.Yteoclecadpapfaa.G
