/- What a call of psaltery/dgram.Right does, told by a plain Lean function of its arguments. Written by a program for this claim. -/
import Derived.Test.YteoclecadpapfaaG0
import Derived.Test.YteoclecadpapfaaGR42
import Derived.Test.YteoclecadpapfaaM5
namespace Go.Proofs.Yteoclecadpapfaa.G
open Go.RowKit Go.Proofs.YteoclecadpapfaaW.PrintWords Go.Proofs.YteoclecadpapfaaW.PrintLast Go.Proofs.YteoclecadpapfaaW.PrintMore
attribute [local go_sem] max2_int min2_int max_two min_two max_three min_three max_four min_four
set_option linter.unusedVariables false
set_option linter.unusedSimpArgs false

def dgram_Right.f (seq stamp : Int) (m : Bool) (b : List Int) : Option Bool := some (gramRight seq stamp m b)
theorem dgram_Right.of {seq stamp : Int} {m : Bool} {b : List Int} {r : Bool} (h : dgram_Right.f seq stamp m b = some r) : dgram_Right_raw.f seq stamp m b = some r := by
  rw [← h]
  clear h
  unfold dgram_Right_raw.f dgram_Right.f gramRight
  repeat' split
  all_goals
    refine congrArg some ?_
    symm
    first
      | exact decide_eq_false (fun ⟨h1, h2, h3, h4, h5, h6⟩ => by omega)
      | exact decide_eq_true ⟨by omega, by omega, by omega, by omega, by omega, fun h => absurd h (by assumption)⟩
      | (by_cases hz : b.length = 0
         · rw [hz]; exact decide_eq_true ⟨by omega, by omega, by omega, by omega, by omega, fun _ => rfl⟩
         · rw [show ((b.length : Int) == 0) = false from beq_eq_false_iff_ne.mpr (by omega)]
           exact decide_eq_false (fun ⟨_, _, _, _, _, h6⟩ => hz (h6 (by assumption))))
theorem dgram_Right.calls (a0_0 : Int) (a0_1 : Int) (a0_2 : Bool) (A0_3 : Option Addr) (c0_3 : Nat) (l0_3 : List Int) (r : Bool) (w : World) (hr0_3 : Kd.C (Kd.int .u8) w A0_3 l0_3.length l0_3) (hc0_3 : l0_3.length ≤ c0_3) (h : dgram_Right.f a0_0 a0_1 a0_2 l0_3 = some r) :
    Calls Try.prog 42 #[.agg #[.int .i64 a0_0, .int .i64 a0_1, .bool a0_2, .slice A0_3 l0_3.length c0_3]] w fun e w' => e = .returned (.bool r) ∧ Below w.heap.size w w' := by
  exact dgram_Right_raw.calls a0_0 a0_1 a0_2 A0_3 c0_3 l0_3 r w hr0_3 hc0_3 (dgram_Right.of h)

end Go.Proofs.Yteoclecadpapfaa.G
