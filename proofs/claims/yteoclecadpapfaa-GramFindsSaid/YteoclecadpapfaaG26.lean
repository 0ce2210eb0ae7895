/- What a call of psaltery/sums.Sum does, told by a plain Lean function of its arguments. Written by a program for this claim. -/
import Derived.Test.YteoclecadpapfaaG0
import Derived.Test.YteoclecadpapfaaG28
import Derived.Test.YteoclecadpapfaaG30
import Derived.Test.YteoclecadpapfaaG31
import Derived.Test.YteoclecadpapfaaGR26
import Derived.Test.YteoclecadpapfaaM5
namespace Go.Proofs.Yteoclecadpapfaa.G
open Go.RowKit Go.Proofs.YteoclecadpapfaaW.PrintWords Go.Proofs.YteoclecadpapfaaW.PrintLast Go.Proofs.YteoclecadpapfaaW.PrintMore
attribute [local go_sem] max2_int min2_int max_two min_two max_three min_three max_four min_four
set_option linter.unusedVariables false
set_option linter.unusedSimpArgs false

def sums_Sum.f (t : List Int) (b : List Int) : Option (Int × Int) := if t.length = 256 then some (sumI t b, 0) else some (0, 1)
theorem sums_Sum.of {t b : List Int} {r : Int × Int} (h : sums_Sum.f t b = some r) : sums_Sum_raw.f t b = some r := by
  unfold sums_Sum.f at h
  unfold sums_Sum_raw.f sums_Begin.f sums_End.f sums_Add.f
  split at h
  · rename_i hl
    simp only [Option.bind_some, if_pos hl, if_true]
    exact h
  · rename_i hl
    simp only [Option.bind_some, if_neg hl]
    exact h
theorem sums_Sum.calls (A0 : Option Addr) (c0 : Nat) (l0 : List Int) (A1 : Option Addr) (c1 : Nat) (l1 : List Int) (r1 : Int) (r2 : Int) (w : World) (hr0 : Kd.C (Kd.int .u32) w A0 l0.length l0) (hc0 : l0.length ≤ c0) (hr1 : Kd.C (Kd.int .u8) w A1 l1.length l1) (hc1 : l1.length ≤ c1) (h : sums_Sum.f l0 l1 = some (r1, r2)) :
    Calls Try.prog 26 #[.slice A0 l0.length c0, .slice A1 l1.length c1] w fun e w' => e = .returned (.tuple #[.int .u32 r1, .int .i64 r2]) ∧ Below w.heap.size w w' := by
  exact sums_Sum_raw.calls A0 c0 l0 A1 c1 l1 r1 r2 w hr0 hc0 hr1 hc1 (sums_Sum.of h)

end Go.Proofs.Yteoclecadpapfaa.G
