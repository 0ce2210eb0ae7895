/- What a call of psaltery/psalteryref19.Fair does, told by a plain Lean function of its arguments. Written by a program for this claim. -/
import Derived.Test.YteoclecadpapfaaG0
import Derived.Test.YteoclecadpapfaaG72
import Derived.Test.YteoclecadpapfaaM7
namespace Go.Proofs.Yteoclecadpapfaa.G
open Go.RowKit Go.Proofs.YteoclecadpapfaaW.PrintWords Go.Proofs.YteoclecadpapfaaW.PrintLast Go.Proofs.YteoclecadpapfaaW.PrintMore
attribute [local go_sem] max2_int min2_int max_two min_two max_three min_three max_four min_four
set_option linter.unusedVariables false
set_option linter.unusedSimpArgs false

/-! ### psalteryref19_Fair_raw: function 52 -/
def psalteryref19_Fair_raw.f (a0 : Int) (a1 : Int) (a2 : Int) : Option (Bool) := if a0 ≥ 0 then (if a0 ≤ 1099511627776 then (if a2 ≥ 1 then (if a2 ≤ 32 then (if a1 ≥ 0 then ((psalteryref19_power.f a2).bind fun t101 => (some (decide (a1 < t101)))) else (some false)) else (some false)) else (some false)) else (some false)) else (some false)
set_option maxHeartbeats 8000000 in
set_option maxRecDepth 100000 in
theorem psalteryref19_Fair_raw.calls (a0 : Int) (a1 : Int) (a2 : Int) (r : Bool) (w : World) (h : psalteryref19_Fair_raw.f a0 a1 a2 = some r) :
    Calls Try.prog 52 #[.int .i64 a0, .int .i64 a1, .int .i64 a2] w fun e w' => e = .returned (.bool r) ∧ Drawn0 w w' := by
  have H : (if a0 ≥ 0 then (if a0 ≤ 1099511627776 then (if a2 ≥ 1 then (if a2 ≤ 32 then (if a1 ≥ 0 then ((psalteryref19_power.f a2).bind fun t101 => (some (decide (a1 < t101)))) else (some false)) else (some false)) else (some false)) else (some false)) else (some false)) = some r := h
  clear h
  by_cases c4 : a0 ≥ 0
  · rw [if_pos c4] at H
    have c4b0 : decide (0 ≤ a0) = true := decide_eq_true c4
    clear c4
    by_cases c5 : a0 ≤ 1099511627776
    · rw [if_pos c5] at H
      have c5b0 : decide (a0 ≤ 1099511627776) = true := decide_eq_true c5
      clear c5
      by_cases c6 : a2 ≥ 1
      · rw [if_pos c6] at H
        have c6b0 : decide (1 ≤ a2) = true := decide_eq_true c6
        clear c6
        by_cases c7 : a2 ≤ 32
        · rw [if_pos c7] at H
          have c7b0 : decide (a2 ≤ 32) = true := decide_eq_true c7
          clear c7
          by_cases c8 : a1 ≥ 0
          · rw [if_pos c8] at H
            have c8b0 : decide (0 ≤ a1) = true := decide_eq_true c8
            clear c8
            replace H := Option.bind_eq_some_iff.mp H
            obtain ⟨t101, A90, H⟩ := H
            replace H : (some (decide (a1 < t101))) = some r := H
            have A9 := Aside0.mk A90
            clear A90
            obtain rfl := Option.some.inj H
            go_enter Try.func52, Try.ntmps52
            go_wp2_with (first | (go_at_call 72; (with_reducible refine (psalteryref19_power.calls a2 t101 _ A9.out).mono ?_); rintro e w' ⟨rfl, ⟨nd, rfl⟩⟩))
            go_ret
            exact ⟨by first | rfl | (simp; done) | (simp [*]; done), by repeat (first | exact Drawn0.refl _ | apply Drawn0.step)⟩
          · rw [if_neg c8] at H
            have c8b0 : decide (0 ≤ a1) = false := decide_eq_false c8
            clear c8
            obtain rfl := Option.some.inj H
            go_enter Try.func52, Try.ntmps52
            go_wp2
            go_ret
            exact ⟨by first | rfl | (simp; done) | (simp [*]; done), by repeat (first | exact Drawn0.refl _ | apply Drawn0.step)⟩
        · rw [if_neg c7] at H
          have c7b0 : decide (a2 ≤ 32) = false := decide_eq_false c7
          clear c7
          obtain rfl := Option.some.inj H
          go_enter Try.func52, Try.ntmps52
          go_wp2
          go_ret
          exact ⟨by first | rfl | (simp; done) | (simp [*]; done), by repeat (first | exact Drawn0.refl _ | apply Drawn0.step)⟩
      · rw [if_neg c6] at H
        have c6b0 : decide (1 ≤ a2) = false := decide_eq_false c6
        clear c6
        obtain rfl := Option.some.inj H
        go_enter Try.func52, Try.ntmps52
        go_wp2
        go_ret
        exact ⟨by first | rfl | (simp; done) | (simp [*]; done), by repeat (first | exact Drawn0.refl _ | apply Drawn0.step)⟩
    · rw [if_neg c5] at H
      have c5b0 : decide (a0 ≤ 1099511627776) = false := decide_eq_false c5
      clear c5
      obtain rfl := Option.some.inj H
      go_enter Try.func52, Try.ntmps52
      go_wp2
      go_ret
      exact ⟨by first | rfl | (simp; done) | (simp [*]; done), by repeat (first | exact Drawn0.refl _ | apply Drawn0.step)⟩
  · rw [if_neg c4] at H
    have c4b0 : decide (0 ≤ a0) = false := decide_eq_false c4
    clear c4
    obtain rfl := Option.some.inj H
    go_enter Try.func52, Try.ntmps52
    go_wp2
    go_ret
    exact ⟨by first | rfl | (simp; done) | (simp [*]; done), by repeat (first | exact Drawn0.refl _ | apply Drawn0.step)⟩

def psalteryref19_Fair.f (n v bits : Int) : Option Bool := some (decide (Fair n v bits))
theorem psalteryref19_Fair.of {n v bits : Int} {r : Bool} (h : psalteryref19_Fair.f n v bits = some r) : psalteryref19_Fair_raw.f n v bits = some r := by
  rw [← h]
  clear h
  unfold psalteryref19_Fair_raw.f psalteryref19_Fair.f
  by_cases h1 : n ≥ 0
  · rw [if_pos h1]
    by_cases h2 : n ≤ 1099511627776
    · rw [if_pos h2]
      by_cases h3 : bits ≥ 1
      · rw [if_pos h3]
        by_cases h4 : bits ≤ 32
        · rw [if_pos h4]
          by_cases h5 : v ≥ 0
          · rw [if_pos h5, psalteryref19_power.f, if_pos (by omega), Option.bind_some]
            refine congrArg some ?_
            rw [decide_eq_decide]
            exact ⟨fun h => ⟨h1, h2, h3, h4, h5, h⟩, fun h => h.2.2.2.2.2⟩
          · rw [if_neg h5, decide_eq_false (fun h => h5 h.2.2.2.2.1)]
        · rw [if_neg h4, decide_eq_false (fun h => h4 h.2.2.2.1)]
      · rw [if_neg h3, decide_eq_false (fun h => h3 h.2.2.1)]
    · rw [if_neg h2, decide_eq_false (fun h => h2 h.2.1)]
  · rw [if_neg h1, decide_eq_false (fun h => h1 h.1)]
theorem psalteryref19_Fair.calls (a0 : Int) (a1 : Int) (a2 : Int) (r : Bool) (w : World) (h : psalteryref19_Fair.f a0 a1 a2 = some r) :
    Calls Try.prog 52 #[.int .i64 a0, .int .i64 a1, .int .i64 a2] w fun e w' => e = .returned (.bool r) ∧ Drawn0 w w' := by
  exact psalteryref19_Fair_raw.calls a0 a1 a2 r w (psalteryref19_Fair.of h)

end Go.Proofs.Yteoclecadpapfaa.G
