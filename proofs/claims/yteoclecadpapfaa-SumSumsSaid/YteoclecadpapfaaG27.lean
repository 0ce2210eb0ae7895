/- What a call of psaltery/psalteryref02.Sum does, told by a plain Lean function of its arguments. Written by a program for this claim. -/
import Derived.Test.YteoclecadpapfaaG0
import Derived.Test.YteoclecadpapfaaG23
import Derived.Test.YteoclecadpapfaaG26
import Derived.Test.YteoclecadpapfaaGR27
import Derived.Test.YteoclecadpapfaaM2
namespace Go.Proofs.Yteoclecadpapfaa.G
open Go.RowKit Go.Proofs.YteoclecadpapfaaW.PrintWords Go.Proofs.YteoclecadpapfaaW.PrintLast Go.Proofs.YteoclecadpapfaaW.PrintMore
attribute [local go_sem] max2_int min2_int max_two min_two max_three min_three max_four min_four
set_option linter.unusedVariables false
set_option linter.unusedSimpArgs false

def psalteryref02_Sum.f (b : List Int) : Option Int := if okB b ∧ b.length ≤ 140737488351232 then some (sumI tabL b) else none
theorem psalteryref02_Sum.of {b : List Int} {r : Int} (h : psalteryref02_Sum.f b = some r) : ∃ k, psalteryref02_Sum_raw.f k b = some r := by
  unfold psalteryref02_Sum.f at h
  split at h
  case isFalse => cases h
  case isTrue h0 =>
    obtain ⟨hb, hn⟩ := h0
    injection h with h
    subst h
    refine Ev.rounds ?_
    unfold psalteryref02_Sum_raw.f
    have go : ∀ j : Nat, j ≤ b.length → Ev (fun k => psalteryref02_Sum_raw.l0 k b (addI tabL 4294967295 (b.take j)) (j : Int)) (sumI tabL b) := by
      intro j hj
      induction hd : b.length - j generalizing j with
      | zero =>
        obtain rfl : j = b.length := by omega
        rw [List.take_length]
        refine Ev.step (f := fun _ => some (sumI tabL b)) (fun k => ?_) (Ev.now _)
        simp only [psalteryref02_Sum_raw.l0]
        rw [if_neg (by omega), bits_comm_xor]
        rfl
      | succ d ih =>
        refine Ev.step (f := fun k => psalteryref02_Sum_raw.l0 k b (addI tabL 4294967295 (b.take (j + 1))) ((j + 1 : Nat) : Int)) (fun k => ?_) (ih (j + 1) (by omega) (by omega))
        have hx := rd_mem hb (j : Int) (by omega)
        have hr := addI_range tabL (b.take j) 4294967295 (by omega)
        rw [addI_snoc tabL 4294967295 b j (by omega)]
        generalize addI tabL 4294967295 (b.take j) = q at hr ⊢
        have h4 : wrap64 ((j : Int) + 1) = ((j + 1 : Nat) : Int) := by unfold wrap64; omega
        simp only [psalteryref02_Sum_raw.l0]
        rw [if_pos (by omega), if_pos (by omega), h4]
        generalize rd b (j : Int) = x at hx ⊢
        obtain ⟨q, rfl⟩ := Int.eq_ofNat_of_zero_le hr.1
        obtain ⟨x, rfl⟩ := Int.eq_ofNat_of_zero_le hx.1
        have hq : q < 4294967296 := by omega
        have hx' : x < 256 := by omega
        have e1 : Int.tmod (q : Int) 256 = ((q % 256 : Nat) : Int) := by rw [Int.tmod_eq_emod_of_nonneg (by omega)]; omega
        have e2 : (x : Int) % 4294967296 = (x : Int) := by omega
        have e3 : Int.tdiv (q : Int) 256 % 4294967296 = (q : Int) / 256 := by rw [Int.tdiv_eq_ediv_of_nonneg (by omega)]; omega
        have hi : q % 256 ^^^ x < 256 := Nat.xor_lt_two_pow (n := 8) (by omega) hx'
        rw [e1, e2, e3, xor_u32 _ _ (by omega) (by omega), psalteryref02_Entry.f, if_pos (by omega), Option.bind_some, Int.toNat_natCast, ← tabL_get _ hi]
        unfold addS
        rw [show (q : Int) % 256 = ((q % 256 : Nat) : Int) by omega, xor_u8 _ _ (by omega) hx']
    exact go 0 (by omega)
theorem psalteryref02_Sum.calls (A0 : Option Addr) (c0 : Nat) (l0 : List Int) (r : Int) (w : World) (hr0 : Kd.C (Kd.int .u8) w A0 l0.length l0) (hc0 : l0.length ≤ c0) (h : psalteryref02_Sum.f l0 = some r) :
    Calls Try.prog 27 #[.slice A0 l0.length c0] w fun e w' => e = .returned (.int .u32 r) ∧ Drawn0 w w' := by
  obtain ⟨k, hk⟩ := psalteryref02_Sum.of h
  exact psalteryref02_Sum_raw.calls k A0 c0 l0 r w hr0 hc0 hk

end Go.Proofs.Yteoclecadpapfaa.G
