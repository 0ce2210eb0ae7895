/- What the document's writing of a right datagram answers: the same bytes. -/
import Derived.Test.YteoclecadpapfaaG45
import Derived.Test.YteoclecadpapfaaM9
namespace Go.Proofs.Yteoclecadpapfaa.G
open Go.RowKit Go.Proofs.YteoclecadpapfaaW.PrintWords Go.Proofs.YteoclecadpapfaaW.PrintMore
theorem refSum (t x : List Int) : Go.bits .xor .u32 (addI t 4294967295 x) 4294967295 = sumI t x := by
  unfold sumI
  exact bits_comm_xor _ _ _
theorem refWrite_eq (t l : List Int) (a b : Int) (c : Bool) (ht : t.length = 256) (hl : okB l) (hr : gramRight a b c l = true) : psalteryref19_Write.f t a b c l = some (gramBytes t a b c l) := by
  obtain ⟨h1, h2, h3, h4, h5, h6⟩ := (gramRight_iff a b c l).mp hr
  have l2 : (lowI a 2).length = 2 := lowI_length _ _
  have l4 : (lowI b 4).length = 4 := lowI_length _ _
  have hn := gramHead_length a b c l
  have hok := okB_head a b c l hl
  have hs := sumI_range t (gramHead a b c l)
  have hw : wrap64 (sumI t (gramHead a b c l)) = sumI t (gramHead a b c l) := wrap64_of (by omega) (by omega)
  have p2 : Int.toNat 2 = 2 := rfl
  have p4 : Int.toNat 4 = 4 := rfl
  have hA : psalteryref02_Add.f t 4294967295 (gramHead a b c l) = some (addI t 4294967295 (gramHead a b c l)) := by
    unfold psalteryref02_Add.f
    exact if_pos ⟨ht, hok, ⟨by omega, by omega⟩, by omega⟩
  have hL : psalteryref19_low.f (sumI t (gramHead a b c l)) 4 = some (lowI (sumI t (gramHead a b c l)) 4) := by
    unfold psalteryref19_low.f
    exact if_pos ⟨by omega, by omega, by omega, by omega⟩
  have hL2 : psalteryref19_low.f a 2 = some (lowI a 2) := by
    unfold psalteryref19_low.f
    exact if_pos ⟨by omega, by omega, by omega, by omega⟩
  have hL4 : psalteryref19_low.f b 4 = some (lowI b 4) := by
    unfold psalteryref19_low.f
    exact if_pos ⟨by omega, by omega, by omega, by omega⟩
  have l4s : (lowI (sumI t (gramHead a b c l)) 4).length = 4 := lowI_length _ _
  have g1 : (lowI a 2).length + (lowI b 4).length < 140737488355328 := by omega
  have g2 : (lowI a 2 ++ lowI b 4).length < 140737488355328 := by rw [List.length_append]; omega
  have g3 : ∀ z : Int, (lowI a 2 ++ lowI b 4 ++ [z]).length + l.length < 140737488355328 := fun z => by rw [List.length_append, List.length_append, List.length_singleton]; omega
  have g4 : (gramHead a b c l).length + (lowI (sumI t (gramHead a b c l)) 4).length < 140737488355328 := by omega
  have hB : gramBytes t a b c l = gramHead a b c l ++ lowI (sumI t (gramHead a b c l)) 4 := rfl
  have e : lowI a 2 ++ lowI b 4 ++ [if c then 1 else 0] ++ l = gramHead a b c l := rfl
  rw [hB]
  clear hB hn hok hs
  generalize gramHead a b c l = G at *
  unfold psalteryref19_Write.f
  rw [hL2, Option.bind_some, hL4, Option.bind_some, if_pos g1, Option.bind_some]
  cases c with
  | true =>
    have e' : lowI a 2 ++ lowI b 4 ++ [1] ++ l = G := e
    rw [if_pos rfl, if_pos g2, Option.bind_some, if_pos (g3 1), Option.bind_some, e', hA, Option.bind_some, refSum, hw, hL, Option.bind_some, if_pos g4]
  | false =>
    have e' : lowI a 2 ++ lowI b 4 ++ [0] ++ l = G := e
    rw [if_neg (by simp), if_pos g2, Option.bind_some, if_pos (g3 0), Option.bind_some, e', hA, Option.bind_some, refSum, hw, hL, Option.bind_some, if_pos g4]
end Go.Proofs.Yteoclecadpapfaa.G
