/- What a call of psaltery/dgram.Whole does, told by a plain Lean function of its arguments. Written by a program for this claim. -/
import Derived.Test.YteoclecadpapfaaG0
import Derived.Test.YteoclecadpapfaaGR51
import Derived.Test.YteoclecadpapfaaM7
namespace Go.Proofs.Yteoclecadpapfaa.G
open Go.RowKit Go.Proofs.YteoclecadpapfaaW.PrintWords Go.Proofs.YteoclecadpapfaaW.PrintLast Go.Proofs.YteoclecadpapfaaW.PrintMore
attribute [local go_sem] max2_int min2_int max_two min_two max_three min_three max_four min_four
set_option linter.unusedVariables false
set_option linter.unusedSimpArgs false

def dgram_Whole.f (n v bits : Int) : Option (Int × Int) := if Fair n v bits then some (wholeI n v bits.toNat, 0) else some (0, 1)
theorem dgram_Whole.step {k : Nat} (n v : Int) (b : Nat) (hb1 : 1 ≤ b) (hb : b ≤ 32) (h0 : 0 ≤ n) (h1 : n ≤ 1099511627776) (hv0 : 0 ≤ v) (hv1 : v < 2 ^ b) : dgram_Whole_raw.j0 (k + 2) n v (b : Int) false = some (wholeI n v b, 0) := by
  obtain ⟨q, hq, hq1, hq2⟩ := two_pow_half b hb1 hb
  have hp : (0 : Int) < 2 ^ b := by omega
  obtain ⟨d1, d2, d3, d4⟩ := div_parts n (2 ^ b) h0 hp
  have eo := or_whole n v b hb h0 h1 hv0 hv1
  have ea := andNot_low n b hb h0 (by omega)
  have es := shl_one b hb
  have e1 : wrap64 ((2 : Int) ^ b - 1) = 2 ^ b - 1 := wrap64_of (by omega) (by omega)
  have h4 : (0 : Int) ≤ (b : Int) := by omega
  unfold wholeI
  simp only [dgram_Whole_raw.j0]
  rw [if_neg (by simp), if_pos h4, es, e1, ea, eo]
  rw [hq] at d1 d2 d3 d4 hv1 ⊢
  generalize n / (2 * q) * (2 * q) = p at d1 d2 d3 d4 ⊢
  have e2 : wrap64 (p + v - n) = p + v - n := wrap64_of (by omega) (by omega)
  have e3 : wrap64 (Int.tdiv (2 * q) 2) = q := by rw [Int.tdiv_eq_ediv_of_nonneg (by omega), wrap64_of (by omega) (by omega)]; omega
  have e4 : (2 * q) / 2 = q := by omega
  have e5 : wrap64 (p + v - 2 * q) = p + v - 2 * q := wrap64_of (by omega) (by omega)
  have e6 : wrap64 (n - (p + v)) = n - (p + v) := wrap64_of (by omega) (by omega)
  have e7 : wrap64 (p + v + 2 * q) = p + v + 2 * q := wrap64_of (by omega) (by omega)
  rw [e2, e3, e4]
  simp only [dgram_Whole_raw.j1, e3, e5, e6, e7]
  by_cases c1 : p + v ≥ n
  · rw [if_pos c1]
    by_cases c2 : p + v - n ≥ q
    · rw [if_pos c2]
      by_cases c3 : p + v ≥ 2 * q
      · rw [decide_eq_true c3, if_pos rfl, if_pos ⟨c1, c2, c3⟩]
      · rw [decide_eq_false c3, if_neg (by simp), if_neg (show ¬ p + v < n by omega), if_neg (show ¬ (n ≤ p + v ∧ q ≤ p + v - n ∧ 2 * q ≤ p + v) from fun h => c3 h.2.2), if_neg (show ¬ (p + v < n ∧ q < n - (p + v)) by omega)]
    · rw [if_neg c2, if_neg (by simp), if_neg (show ¬ p + v < n by omega), if_neg (show ¬ (n ≤ p + v ∧ q ≤ p + v - n ∧ 2 * q ≤ p + v) from fun h => c2 h.2.1), if_neg (show ¬ (p + v < n ∧ q < n - (p + v)) by omega)]
  · rw [if_neg c1, if_neg (by simp), if_pos (show p + v < n by omega)]
    rw [if_neg (show ¬ (n ≤ p + v ∧ q ≤ p + v - n ∧ 2 * q ≤ p + v) from fun h => c1 h.1)]
    by_cases c4 : n - (p + v) > q
    · rw [if_pos c4, if_pos ⟨by omega, c4⟩]
    · rw [if_neg c4, if_neg (fun h => c4 h.2)]
theorem dgram_Whole.of {n v bits : Int} {r : Int × Int} (h : dgram_Whole.f n v bits = some r) : ∃ k, dgram_Whole_raw.f k n v bits = some r := by
  refine ⟨2, ?_⟩
  rw [← h]
  clear h
  unfold dgram_Whole.f dgram_Whole_raw.f
  by_cases h1 : n < 0
  · rw [if_pos h1, if_neg (fun h => by have := h.1; omega)]; rfl
  · rw [if_neg h1]
    by_cases h2 : n > 1099511627776
    · rw [if_pos h2, if_neg (fun h => by have := h.2.1; omega)]; rfl
    · rw [if_neg h2]
      by_cases h3 : bits < 1
      · rw [if_pos h3, if_neg (fun h => by have := h.2.2.1; omega)]; rfl
      · rw [if_neg h3]
        by_cases h4 : bits > 32
        · rw [if_pos h4, if_neg (fun h => by have := h.2.2.2.1; omega)]; rfl
        · rw [if_neg h4]
          by_cases h5 : v < 0
          · rw [if_pos h5, if_neg (fun h => by have := h.2.2.2.2.1; omega)]; rfl
          · have h6 : 0 ≤ bits := by omega
            rw [if_neg h5, if_pos h6]
            obtain ⟨b, rfl⟩ := Int.eq_ofNat_of_zero_le h6
            obtain ⟨q, hq, hq1, hq2⟩ := two_pow_half b (by omega) (by omega)
            rw [shr_pow v b (by omega)]
            by_cases h7 : v < 2 ^ b
            · have hz : v / 2 ^ b = 0 := Int.ediv_eq_zero_of_lt (by omega) h7
              rw [hz, if_pos (show Fair n v (b : Int) from ⟨by omega, by omega, by omega, by omega, by omega, by rw [Int.toNat_natCast]; exact h7⟩), Int.toNat_natCast]
              exact dgram_Whole.step (k := 0) n v b (by omega) (by omega) (by omega) (by omega) (by omega) h7
            · have hz : ¬ v / 2 ^ b = 0 := by
                rw [hq] at h7 ⊢
                intro hz
                have := Int.lt_ediv_add_one_mul_self v (show 0 < 2 * q by omega)
                rw [hz] at this
                omega
              rw [if_neg (fun h => h7 (by have := h.2.2.2.2.2; rwa [Int.toNat_natCast] at this))]
              rw [show (v / 2 ^ b != 0) = true from bne_iff_ne.mpr hz]
              rfl
theorem dgram_Whole.calls (a0 : Int) (a1 : Int) (a2 : Int) (r1 : Int) (r2 : Int) (w : World) (h : dgram_Whole.f a0 a1 a2 = some (r1, r2)) :
    Calls Try.prog 51 #[.int .i64 a0, .int .i64 a1, .int .i64 a2] w fun e w' => e = .returned (.tuple #[.int .i64 r1, .int .i64 r2]) ∧ Drawn0 w w' := by
  obtain ⟨k, hk⟩ := dgram_Whole.of h
  exact dgram_Whole_raw.calls k a0 a1 a2 r1 r2 w hk

end Go.Proofs.Yteoclecadpapfaa.G
