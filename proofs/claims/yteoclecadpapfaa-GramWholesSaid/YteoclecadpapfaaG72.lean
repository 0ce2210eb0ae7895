/- What a call of psaltery/psalteryref19.power does, told by a plain Lean function of its arguments. Written by a program for this claim. -/
import Derived.Test.YteoclecadpapfaaG0
import Derived.Test.YteoclecadpapfaaM7
namespace Go.Proofs.Yteoclecadpapfaa.G
open Go.RowKit Go.Proofs.YteoclecadpapfaaW.PrintWords Go.Proofs.YteoclecadpapfaaW.PrintLast Go.Proofs.YteoclecadpapfaaW.PrintMore
attribute [local go_sem] max2_int min2_int max_two min_two max_three min_three max_four min_four
set_option linter.unusedVariables false
set_option linter.unusedSimpArgs false

/-! ### psalteryref19_power_raw: function 72 -/
def psalteryref19_power_raw.f : Nat → Int → Option (Int)
  | 0, _ => none
  | k + 1, a0 => if a0 = 0 then (some 1) else ((psalteryref19_power_raw.f k (wrap64 (a0 - 1))).bind fun t101 => (some (wrap64 (2 * t101))))
theorem psalteryref19_power_raw.mono_l : ∀ k, (∀ y0, LeO (psalteryref19_power_raw.f k y0) (psalteryref19_power_raw.f (k + 1) y0))
  | 0 => fun _ r h => by simp [psalteryref19_power_raw.f] at h
  | k + 1 => by
    have ih0 := psalteryref19_power_raw.mono_l k
    · intro y0
      unfold psalteryref19_power_raw.f
      repeat' first
      | (with_reducible exact ih0 _)
      | (with_reducible exact LeO.refl _)
      | (with_reducible exact LeO.none _)
      | (with_reducible refine LeO.ite ?_ ?_)
      | (with_reducible refine LeO.bind ?_ (fun _ => ?_))
      | exact ih0 _
      | exact LeO.none _
      | refine LeO.ite ?_ ?_
      | refine LeO.bind ?_ (fun _ => ?_)
theorem psalteryref19_power_raw.mono : ∀ a0 k, LeO (psalteryref19_power_raw.f k a0) (psalteryref19_power_raw.f (k + 1) a0) := by
  intro a0 k
  have ih0 := psalteryref19_power_raw.mono_l k
  exact ih0 a0
set_option maxHeartbeats 8000000 in
set_option maxRecDepth 100000 in
theorem psalteryref19_power_raw.calls (k : Nat) : ∀ (a0 : Int) (r : Int) (w : World) (h : psalteryref19_power_raw.f k a0 = some r),
    Calls Try.prog 72 #[.int .i64 a0] w fun e w' => e = .returned (.int .i64 r) ∧ Drawn0 w w' := by
  induction k using Nat.strongRecOn with
  | _ k ih =>
  intro a0 r w h
  cases k with
  | zero => exact absurd h (by simp [psalteryref19_power_raw.f])
  | succ k =>
  simp only [psalteryref19_power_raw.f] at h
  have H : (if a0 = 0 then (some 1) else ((psalteryref19_power_raw.f k (wrap64 (a0 - 1))).bind fun t101 => (some (wrap64 (2 * t101))))) = some r := h
  clear h
  by_cases c2 : a0 = 0
  · rw [if_pos c2] at H
    have c2b0 : (a0 == 0) = true := beq_iff_eq.mpr c2
    have c2b1 : (a0 != 0) = false := bne_eq_false_iff_eq.mpr c2
    clear c2
    obtain rfl := Option.some.inj H
    go_enter Try.func72, Try.ntmps72
    go_wp2
    go_ret
    exact ⟨by first | rfl | (simp; done) | (simp [*]; done), by repeat (first | exact Drawn0.refl _ | apply Drawn0.step)⟩
  · rw [if_neg c2] at H
    have c2b0 : (a0 == 0) = false := beq_eq_false_iff_ne.mpr c2
    have c2b1 : (a0 != 0) = true := bne_iff_ne.mpr c2
    replace H := Option.bind_eq_some_iff.mp H
    obtain ⟨t101, A30, H⟩ := H
    replace H : (some (wrap64 (2 * t101))) = some r := H
    have A3 := Aside0.mk A30
    clear A30
    obtain rfl := Option.some.inj H
    go_enter Try.func72, Try.ntmps72
    go_wp2_with (first | ((with_reducible refine gate_callee (f := 72) rfl ?_); refine goesL_ (some 7) rfl rfl Try.func72 (by kernel_rfl) rfl #[.int .i64 (wrap64 (a0 - 1))] rfl (by (try simp only [List.map_toArray, List.map_cons, List.map_nil]); first | done | rfl | (simp only [List.length_drop, List.length_take]; rfl)) ?_; (with_reducible refine (ih k (by omega) (wrap64 (a0 - 1)) t101 _ A3.out).mono ?_); rintro e w' ⟨rfl, ⟨nd, rfl⟩⟩; refine ⟨_, rfl, ?_⟩))
    go_ret
    exact ⟨by first | rfl | (simp; done) | (simp [*]; done), by repeat (first | exact Drawn0.refl _ | apply Drawn0.step)⟩

def psalteryref19_power.f (n : Int) : Option Int := if 0 ≤ n ∧ n ≤ 32 then some (2 ^ n.toNat) else none
theorem psalteryref19_power.of {n r : Int} (h : psalteryref19_power.f n = some r) : ∃ k, psalteryref19_power_raw.f k n = some r := by
  unfold psalteryref19_power.f at h
  split at h
  case isFalse => cases h
  case isTrue h0 =>
    injection h with h
    subst h
    obtain ⟨m, rfl⟩ := Int.eq_ofNat_of_zero_le h0.1
    rw [Int.toNat_natCast]
    have hm : m ≤ 32 := by omega
    clear h0
    refine ⟨m + 1, ?_⟩
    induction m with
    | zero => rfl
    | succ m ih =>
      have e0 : ¬ ((m + 1 : Nat) : Int) = 0 := by omega
      have e1 : wrap64 (((m + 1 : Nat) : Int) - 1) = (m : Int) := by rw [wrap64_of (by omega) (by omega)]; omega
      obtain ⟨q, hq, hq1, hq2⟩ := two_pow_half (m + 1) (by omega) hm
      have e2 : (2 : Int) * 2 ^ m = 2 ^ (m + 1) := by rw [Int.pow_succ, Int.mul_comm]
      rw [psalteryref19_power_raw.f, if_neg e0, e1, ih (by omega), Option.bind_some, e2, wrap64_of (by omega) (by omega)]
theorem psalteryref19_power.calls (a0 : Int) (r : Int) (w : World) (h : psalteryref19_power.f a0 = some r) :
    Calls Try.prog 72 #[.int .i64 a0] w fun e w' => e = .returned (.int .i64 r) ∧ Drawn0 w w' := by
  obtain ⟨k, hk⟩ := psalteryref19_power.of h
  exact psalteryref19_power_raw.calls k a0 r w hk

end Go.Proofs.Yteoclecadpapfaa.G
