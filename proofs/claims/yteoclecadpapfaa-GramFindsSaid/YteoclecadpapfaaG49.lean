/- What a call of psaltery/dgram.Short does, told by a plain Lean function of its arguments. Written by a program for this claim. -/
import Derived.Test.YteoclecadpapfaaG0
import Derived.Test.YteoclecadpapfaaGR49
import Derived.Test.YteoclecadpapfaaM7
namespace Go.Proofs.Yteoclecadpapfaa.G
open Go.RowKit Go.Proofs.YteoclecadpapfaaW.PrintWords Go.Proofs.YteoclecadpapfaaW.PrintLast Go.Proofs.YteoclecadpapfaaW.PrintMore
attribute [local go_sem] max2_int min2_int max_two min_two max_three min_three max_four min_four
set_option linter.unusedVariables false
set_option linter.unusedSimpArgs false

def dgram_Short.f (n bits : Int) : Option Int := if n < 0 ∨ bits < 1 ∨ bits > 32 then some 0 else if n < 9223372036854775808 then some (n % 2 ^ bits.toNat) else none
theorem dgram_Short.of {n bits r : Int} (h : dgram_Short.f n bits = some r) : dgram_Short_raw.f n bits = some r := by
  rw [← h]
  unfold dgram_Short.f at h ⊢
  unfold dgram_Short_raw.f
  by_cases h1 : n < 0
  · rw [if_pos h1, if_pos (.inl h1)]
  · rw [if_neg h1]
    by_cases h2 : bits < 1
    · rw [if_pos h2, if_pos (.inr (.inl h2))]
    · rw [if_neg h2]
      by_cases h3 : bits > 32
      · rw [if_pos h3, if_pos (.inr (.inr h3))]
      · have h4 : 0 ≤ bits := by omega
        have hn : ¬ (n < 0 ∨ bits < 1 ∨ bits > 32) := by omega
        rw [if_neg hn] at h ⊢
        rw [if_neg h3, if_pos h4]
        by_cases h5 : n < 9223372036854775808
        · rw [if_pos h5]
          obtain ⟨b, rfl⟩ := Int.eq_ofNat_of_zero_le h4
          obtain ⟨q, hq, hq1, hq2⟩ := two_pow_half b (by omega) (by omega)
          rw [shl_one b (by omega), wrap64_of (by omega) (by omega), and_low n b (by omega) (by omega) h5, Int.toNat_natCast]
        · rw [if_neg h5] at h
          cases h
theorem dgram_Short.calls (a0 : Int) (a1 : Int) (r : Int) (w : World) (h : dgram_Short.f a0 a1 = some r) :
    Calls Try.prog 49 #[.int .i64 a0, .int .i64 a1] w fun e w' => e = .returned (.int .i64 r) ∧ Drawn0 w w' := by
  exact dgram_Short_raw.calls a0 a1 r w (dgram_Short.of h)

end Go.Proofs.Yteoclecadpapfaa.G
