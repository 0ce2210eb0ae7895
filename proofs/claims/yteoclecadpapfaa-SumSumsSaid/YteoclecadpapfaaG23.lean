/- What a call of psaltery/psalteryref02.Entry does, told by a plain Lean function of its arguments. Written by a program for this claim. -/
import Derived.Test.YteoclecadpapfaaG0
import Derived.Test.YteoclecadpapfaaGR23
import Derived.Test.YteoclecadpapfaaM1
namespace Go.Proofs.Yteoclecadpapfaa.G
open Go.RowKit Go.Proofs.YteoclecadpapfaaW.PrintWords Go.Proofs.YteoclecadpapfaaW.PrintLast Go.Proofs.YteoclecadpapfaaW.PrintMore
attribute [local go_sem] max2_int min2_int max_two min_two max_three min_three max_four min_four
set_option linter.unusedVariables false
set_option linter.unusedSimpArgs false

def psalteryref02_Entry.f (a0 : Int) : Option Int := if 0 ≤ a0 ∧ a0 < 4294967296 then some ((stepsN 8 a0.toNat : Nat) : Int) else none
theorem psalteryref02_Entry.step {r : Int} (c : Nat) (hc : c < 4294967296) (j : Int) (h0 : 0 ≤ j) (h1 : j < 8) (h : Ev (fun k => psalteryref02_Entry_raw.l0 k (stepN c : Nat) (j + 1)) r) : Ev (fun k => psalteryref02_Entry_raw.l0 k (c : Int) j) r := by
  refine Ev.step (f := fun k => psalteryref02_Entry_raw.l0 k (stepN c : Nat) (j + 1)) (fun k => ?_) h
  have e : wrap64 (j + 1) = j + 1 := by unfold wrap64; omega
  have e2 : Int.tmod (c : Int) 2 = ((c % 2 : Nat) : Int) := by rw [Int.tmod_eq_emod_of_nonneg (by omega)]; omega
  have e3 : Int.tdiv (c : Int) 2 % 4294967296 = ((c / 2 : Nat) : Int) := by rw [Int.tdiv_eq_ediv_of_nonneg (by omega)]; omega
  simp only [psalteryref02_Entry_raw.l0]
  rw [if_pos h1, e, e2, e3]
  unfold stepN
  by_cases h2 : c % 2 = 1
  · rw [if_pos (by omega), if_pos h2, show (3988292384 : Int) = ((polyN : Nat) : Int) from rfl, xor_u32 _ _ (by omega) (by decide)]
  · rw [if_neg (by omega), if_neg h2, Nat.xor_zero]
theorem psalteryref02_Entry.of {a0 r : Int} (h : psalteryref02_Entry.f a0 = some r) : ∃ k, psalteryref02_Entry_raw.f k a0 = some r := by
  unfold psalteryref02_Entry.f at h
  split at h
  case isFalse => cases h
  case isTrue h0 =>
    obtain ⟨c, rfl⟩ := Int.eq_ofNat_of_zero_le h0.1
    have hc : c < 4294967296 := by omega
    injection h with h
    subst h
    refine Ev.rounds ?_
    unfold psalteryref02_Entry_raw.f
    have go : ∀ j : Nat, j ≤ 8 → Ev (fun k => psalteryref02_Entry_raw.l0 k (stepsN j c : Nat) (j : Int)) ((stepsN 8 c : Nat) : Int) := by
      intro j hj
      induction hd : 8 - j generalizing j with
      | zero =>
        obtain rfl : j = 8 := by omega
        refine Ev.step (f := fun _ => some ((stepsN 8 c : Nat) : Int)) (fun k => ?_) (Ev.now _)
        simp only [psalteryref02_Entry_raw.l0]
        rw [if_neg (by omega)]
      | succ d ih =>
        refine psalteryref02_Entry.step _ (stepsN_lt hc j) _ (by omega) (by omega) ?_
        have := ih (j + 1) (by omega) (by omega)
        rw [stepsN_add] at this
        exact this
    exact go 0 (by omega)
theorem psalteryref02_Entry.calls (a0 : Int) (r : Int) (w : World) (h : psalteryref02_Entry.f a0 = some r) :
    Calls Try.prog 23 #[.int .u32 a0] w fun e w' => e = .returned (.int .u32 r) ∧ Drawn0 w w' := by
  obtain ⟨k, hk⟩ := psalteryref02_Entry.of h
  exact psalteryref02_Entry_raw.calls k a0 r w hk

end Go.Proofs.Yteoclecadpapfaa.G
