/- What a call of psaltery/psalteryref19.Short does, told by a plain Lean function of its arguments. Written by a program for this claim. -/
import Derived.Test.YteoclecadpapfaaG0
import Derived.Test.YteoclecadpapfaaG72
import Derived.Test.YteoclecadpapfaaM7
namespace Go.Proofs.Yteoclecadpapfaa.G
open Go.RowKit Go.Proofs.YteoclecadpapfaaW.PrintWords Go.Proofs.YteoclecadpapfaaW.PrintLast Go.Proofs.YteoclecadpapfaaW.PrintMore
attribute [local go_sem] max2_int min2_int max_two min_two max_three min_three max_four min_four
set_option linter.unusedVariables false
set_option linter.unusedSimpArgs false

/-! ### psalteryref19_Short_raw: function 50 -/
def psalteryref19_Short_raw.f (a0 : Int) (a1 : Int) : Option (Int) := if a0 < 0 then (some 0) else (if a1 < 1 then (some 0) else (if a1 > 32 then (some 0) else ((psalteryref19_power.f a1).bind fun t101 => (if t101 = 0 then (none) else (some (Int.tmod a0 t101))))))
set_option maxHeartbeats 8000000 in
set_option maxRecDepth 100000 in
theorem psalteryref19_Short_raw.calls (a0 : Int) (a1 : Int) (r : Int) (w : World) (h : psalteryref19_Short_raw.f a0 a1 = some r) :
    Calls Try.prog 50 #[.int .i64 a0, .int .i64 a1] w fun e w' => e = .returned (.int .i64 r) ∧ Drawn0 w w' := by
  have H : (if a0 < 0 then (some 0) else (if a1 < 1 then (some 0) else (if a1 > 32 then (some 0) else ((psalteryref19_power.f a1).bind fun t101 => (if t101 = 0 then (none) else (some (Int.tmod a0 t101))))))) = some r := h
  clear h
  by_cases c3 : a0 < 0
  · rw [if_pos c3] at H
    have c3b0 : decide (a0 < 0) = true := decide_eq_true c3
    clear c3
    obtain rfl := Option.some.inj H
    go_enter Try.func50, Try.ntmps50
    go_wp2
    go_ret
    exact ⟨by first | rfl | (simp; done) | (simp [*]; done), by repeat (first | exact Drawn0.refl _ | apply Drawn0.step)⟩
  · rw [if_neg c3] at H
    have c3b0 : decide (a0 < 0) = false := decide_eq_false c3
    clear c3
    by_cases c4 : a1 < 1
    · rw [if_pos c4] at H
      have c4b0 : decide (a1 < 1) = true := decide_eq_true c4
      clear c4
      obtain rfl := Option.some.inj H
      go_enter Try.func50, Try.ntmps50
      go_wp2
      go_ret
      exact ⟨by first | rfl | (simp; done) | (simp [*]; done), by repeat (first | exact Drawn0.refl _ | apply Drawn0.step)⟩
    · rw [if_neg c4] at H
      have c4b0 : decide (a1 < 1) = false := decide_eq_false c4
      clear c4
      by_cases c5 : a1 > 32
      · rw [if_pos c5] at H
        have c5b0 : decide (32 < a1) = true := decide_eq_true c5
        clear c5
        obtain rfl := Option.some.inj H
        go_enter Try.func50, Try.ntmps50
        go_wp2
        go_ret
        exact ⟨by first | rfl | (simp; done) | (simp [*]; done), by repeat (first | exact Drawn0.refl _ | apply Drawn0.step)⟩
      · rw [if_neg c5] at H
        have c5b0 : decide (32 < a1) = false := decide_eq_false c5
        clear c5
        replace H := Option.bind_eq_some_iff.mp H
        obtain ⟨t101, A60, H⟩ := H
        replace H : (if t101 = 0 then (none) else (some (Int.tmod a0 t101))) = some r := H
        have A6 := Aside0.mk A60
        clear A60
        by_cases c7 : t101 = 0
        · rw [if_pos c7] at H
          exact absurd H (by simp)
        · rw [if_neg c7] at H
          have c7b0 : (t101 == 0) = false := beq_eq_false_iff_ne.mpr c7
          have c7b1 : (t101 != 0) = true := bne_iff_ne.mpr c7
          obtain rfl := Option.some.inj H
          go_enter Try.func50, Try.ntmps50
          go_wp2_with (first | ((with_reducible refine gate_callee (f := 72) rfl ?_); refine goesL_ (some 17) rfl rfl Try.func72 (by kernel_rfl) rfl #[.int .i64 a1] rfl (by (try simp only [List.map_toArray, List.map_cons, List.map_nil]); first | done | rfl | (simp only [List.length_drop, List.length_take]; rfl)) ?_; (with_reducible refine (psalteryref19_power.calls a1 t101 _ A6.out).mono ?_); rintro e w' ⟨rfl, ⟨nd, rfl⟩⟩; refine ⟨_, rfl, ?_⟩))
          go_ret
          exact ⟨by first | rfl | (simp; done) | (simp [*]; done), by repeat (first | exact Drawn0.refl _ | apply Drawn0.step)⟩

def psalteryref19_Short.f (n bits : Int) : Option Int := if n < 0 ∨ bits < 1 ∨ bits > 32 then some 0 else if n < 9223372036854775808 then some (n % 2 ^ bits.toNat) else none
theorem psalteryref19_Short.of {n bits r : Int} (h : psalteryref19_Short.f n bits = some r) : psalteryref19_Short_raw.f n bits = some r := by
  rw [← h]
  unfold psalteryref19_Short.f at h ⊢
  unfold psalteryref19_Short_raw.f
  by_cases h1 : n < 0
  · rw [if_pos h1, if_pos (.inl h1)]
  · rw [if_neg h1]
    by_cases h2 : bits < 1
    · rw [if_pos h2, if_pos (.inr (.inl h2))]
    · rw [if_neg h2]
      by_cases h3 : bits > 32
      · rw [if_pos h3, if_pos (.inr (.inr h3))]
      · have hn : ¬ (n < 0 ∨ bits < 1 ∨ bits > 32) := by omega
        rw [if_neg hn] at h ⊢
        rw [if_neg h3, psalteryref19_power.f, if_pos (by omega), Option.bind_some]
        obtain ⟨q, hq, hq1, hq2⟩ := two_pow_half bits.toNat (by omega) (by omega)
        rw [if_neg (by omega)]
        by_cases h5 : n < 9223372036854775808
        · rw [if_pos h5, Int.tmod_eq_emod_of_nonneg (by omega)]
        · rw [if_neg h5] at h
          cases h
theorem psalteryref19_Short.calls (a0 : Int) (a1 : Int) (r : Int) (w : World) (h : psalteryref19_Short.f a0 a1 = some r) :
    Calls Try.prog 50 #[.int .i64 a0, .int .i64 a1] w fun e w' => e = .returned (.int .i64 r) ∧ Drawn0 w w' := by
  exact psalteryref19_Short_raw.calls a0 a1 r w (psalteryref19_Short.of h)

end Go.Proofs.Yteoclecadpapfaa.G
