/- A number is found again of its short one, from any number that is not farther away than half of the round, less one. For all whole numbers; beyond 2^39 and outside of 2 to 32 bits the law asks nothing. -/
import Derived.Test.YteoclecadpapfaaG15
import Derived.Test.YteoclecadpapfaaM7
namespace Go.Proofs.Yteoclecadpapfaa.Pure
open Go.RowKit Go.Proofs.Yteoclecadpapfaa.G Go.Proofs.YteoclecadpapfaaW.PrintWords Go.Proofs.YteoclecadpapfaaW.PrintLast Go.Proofs.YteoclecadpapfaaW.PrintMore

/-- Within half of the round, less one, the number is found again. -/
theorem whole_finds (n m : Int) (b : Nat) (q : Int) (hq : (2 : Int) ^ b = 2 * q) (hq1 : 1 ≤ q) (hn : 0 ≤ n) (hm : 0 ≤ m) (h1 : n - (q - 1) ≤ m) (h2 : m ≤ n + (q - 1)) : wholeI m (n % 2 ^ b) b = n := by
  have hp : (0 : Int) < 2 * q := by omega
  obtain ⟨d1, d2, d3, d4⟩ := div_parts n (2 * q) hn hp
  obtain ⟨c1, c2, c3, c4⟩ := div_parts m (2 * q) hm hp
  have hmod : n % (2 * q) = n - n / (2 * q) * (2 * q) := by
    have h3 := Int.mul_ediv_add_emod n (2 * q)
    rw [Int.mul_comm] at h3
    omega
  have hmul : ∃ k : Int, n / (2 * q) * (2 * q) - m / (2 * q) * (2 * q) = k * (2 * q) ∧ -1 ≤ k ∧ k ≤ 1 := by
    refine ⟨n / (2 * q) - m / (2 * q), (Int.sub_mul _ _ _).symm, ?_, ?_⟩
    · have h3 : m / (2 * q) < n / (2 * q) + 2 := by
        apply Int.ediv_lt_of_lt_mul hp
        rw [Int.add_mul]
        omega
      omega
    · have h3 : n / (2 * q) < m / (2 * q) + 2 := by
        apply Int.ediv_lt_of_lt_mul hp
        rw [Int.add_mul]
        omega
      omega
  obtain ⟨k, hk, hk1, hk2⟩ := hmul
  unfold wholeI
  rw [hq, hmod]
  generalize n / (2 * q) * (2 * q) = p at d1 d2 d3 d4 hk ⊢
  generalize m / (2 * q) * (2 * q) = s at c1 c2 c3 c4 hk ⊢
  have e4 : (2 * q) / 2 = q := by omega
  rw [e4]
  rcases (by omega : k = -1 ∨ k = 0 ∨ k = 1) with rfl | rfl | rfl
  all_goals
    split
    · omega
    · split
      · omega
      · omega

theorem finds_j0 (n off bits : Int) (hb1 : 2 ≤ bits) (hb2 : bits ≤ 32) (hn0 : 0 ≤ n) (hn1 : n ≤ 549755813888) : psalterylaw19_GramFinds.j0 1 n off bits false = some true := by
  obtain ⟨b, rfl⟩ := Int.eq_ofNat_of_zero_le (show 0 ≤ bits by omega)
  obtain ⟨q, hq, hq1, hq2⟩ := two_pow_half b (by omega) (by omega)
  have hw : ∀ y : Int, IntKind.u64.wrap y = y % 18446744073709551616 := fun y => by simp [IntKind.wrap, IntKind.bits, IntKind.signed]
  have e1 : wrap64 ((b : Int) - 1) = ((b - 1 : Nat) : Int) := by rw [wrap64_of (by omega) (by omega)]; omega
  have e2 : shl .i64 1 ((b - 1 : Nat) : Int) = q := by
    rw [shl_one (b - 1) (by omega)]
    have : (2 : Int) ^ (b - 1 + 1) = 2 ^ (b - 1) * 2 := Int.pow_succ _ _
    rw [show b - 1 + 1 = b by omega, hq] at this
    omega
  have e3 : wrap64 (2 * q) = 2 * q := wrap64_of (by omega) (by omega)
  have e4 : wrap64 (2 * q - 1) = 2 * q - 1 := wrap64_of (by omega) (by omega)
  have e5 : IntKind.u64.wrap (2 * q - 1) = 2 * q - 1 := by rw [hw]; omega
  have e6 : wrap64 (q - 1) = q - 1 := wrap64_of (by omega) (by omega)
  have hx : 0 ≤ IntKind.u64.wrap off := by rw [hw]; omega
  have e7 : Int.tmod (IntKind.u64.wrap off) (2 * q - 1) = IntKind.u64.wrap off % (2 * q - 1) := Int.tmod_eq_emod_of_nonneg hx
  have h5 := Int.emod_nonneg (IntKind.u64.wrap off) (show (2 * q - 1) ≠ 0 by omega)
  have h6 := Int.emod_lt_of_pos (IntKind.u64.wrap off) (show 0 < 2 * q - 1 by omega)
  simp only [psalterylaw19_GramFinds.j0]
  rw [if_neg (by simp), e1, if_pos (show (0 : Int) ≤ ((b - 1 : Nat) : Int) by omega)]
  simp only [e2, e3, e4, e5, e6, e7]
  generalize IntKind.u64.wrap off % (2 * q - 1) = o at h5 h6 ⊢
  have e8 : wrap64 o = o := wrap64_of (by omega) (by omega)
  have e9 : wrap64 (n + o) = n + o := wrap64_of (by omega) (by omega)
  have e10 : wrap64 (n + o - (q - 1)) = n + o - (q - 1) := wrap64_of (by omega) (by omega)
  rw [if_neg (show ¬ 2 * q - 1 = 0 by omega), e8, e9, e10]
  by_cases hneg : n + o - (q - 1) < 0
  · rw [if_pos hneg]; rfl
  · rw [if_neg hneg, dgram_Short.f, if_neg (by omega), if_pos (by omega), Option.bind_some, Int.toNat_natCast]
    have hv0 := Int.emod_nonneg n (show (2 : Int) ^ b ≠ 0 by omega)
    have hv1 := Int.emod_lt_of_pos n (show (0 : Int) < 2 ^ b by omega)
    have hf : G.Fair (n + o - (q - 1)) (n % 2 ^ b) (b : Int) := ⟨by omega, by omega, by omega, by omega, hv0, by rw [Int.toNat_natCast]; exact hv1⟩
    rw [dgram_Whole.f, if_pos hf, Option.bind_some, Int.toNat_natCast, whole_finds n _ b q hq hq1 hn0 (by omega) (by omega) (by omega), if_pos rfl, if_pos rfl]
    rfl

theorem GramFinds : psalterylaw19_GramFinds.Pure := by
  intro n off bits h1 h2 h3
  refine ⟨1, ?_⟩
  have hj : psalterylaw19_GramFinds.j0 1 n off bits true = some true := rfl
  unfold psalterylaw19_GramFinds.f
  split
  · exact hj
  · split
    · exact hj
    · split
      · exact hj
      · by_cases hg : n > 549755813888
        · rw [decide_eq_true hg]; exact hj
        · rw [decide_eq_false hg]
          exact finds_j0 n off bits (by omega) (by omega) (by omega) (by omega)

end Go.Proofs.Yteoclecadpapfaa.Pure
