/- What a call of psaltery/psalterylaw18.As does, told by a plain Lean function of its arguments. Written by a program for this claim. -/
import Derived.Test.YteoclecadpapfaaG0
namespace Go.Proofs.Yteoclecadpapfaa.G
open Go.RowKit Go.Proofs.YteoclecadpapfaaW.PrintWords Go.Proofs.YteoclecadpapfaaW.PrintLast Go.Proofs.YteoclecadpapfaaW.PrintMore
attribute [local go_sem] max2_int min2_int max_two min_two max_three min_three max_four min_four
set_option linter.unusedVariables false
set_option linter.unusedSimpArgs false

def psalterylaw18_As.f (a0_0 : Int) (a0_1 : Int) (a0_2 : Bool) (a0_3 : Bool) (a0_4 : Bool) (a0_5 : Bool) (l0_6 : List (List Int)) : Option Unit := some ()
set_option maxHeartbeats 8000000 in
set_option maxRecDepth 100000 in
theorem psalterylaw18_As.calls (a0_0 : Int) (a0_1 : Int) (a0_2 : Bool) (a0_3 : Bool) (a0_4 : Bool) (a0_5 : Bool) (A0_6 : Option Addr) (c0_6 : Nat) (l0_6 : List (List Int)) (w : World) (hr0_6 : Kd.C (Kd.slice 5 (Kd.int .u8)) w A0_6 l0_6.length l0_6) (hc0_6 : l0_6.length ≤ c0_6) (h : psalterylaw18_As.f a0_0 a0_1 a0_2 a0_3 a0_4 a0_5 l0_6 = some ()) :
    Calls Try.prog 37 #[.agg #[.int .i64 a0_0, .int .i64 a0_1, .bool a0_2, .bool a0_3, .bool a0_4, .bool a0_5, .slice A0_6 l0_6.length c0_6]] w fun e w' => e = .returned (.agg #[.int .i64 a0_0, .int .i64 a0_1, .bool a0_2, .bool a0_3, .bool a0_4, .bool a0_5, .slice A0_6 l0_6.length c0_6]) ∧ Below w.heap.size w w' := by
  have hu43 := Try.underlying43
  have hu50 := Try.underlying50
  have HB := Aside0.mk (Below.refl w.heap.size w)
  clear hr0_6 hc0_6 h
  go_enter Try.func37, Try.ntmps37
  go_wp2
  exact bodyPost_ret (v := .agg #[.int .i64 a0_0, .int .i64 a0_1, .bool a0_2, .bool a0_3, .bool a0_4, .bool a0_5, .slice A0_6 l0_6.length c0_6]) (by simp [results, Try.results37, go_sem]) rfl ⟨rfl, by repeat (first | exact HB.out | apply below_alloc)⟩

end Go.Proofs.Yteoclecadpapfaa.G
