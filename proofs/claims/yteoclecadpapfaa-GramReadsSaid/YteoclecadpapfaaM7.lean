/- The whole number of a short one: by bits, and as the nearest of three. -/
import Derived.Test.YteoclecadpapfaaM5
namespace Go.Proofs.Yteoclecadpapfaa.G
open Go.RowKit Go.Proofs.YteoclecadpapfaaW.PrintWords Go.Proofs.YteoclecadpapfaaW.PrintMore
theorem two_pow_half (b : Nat) (h1 : 1 ≤ b) (h2 : b ≤ 32) : ∃ h : Int, (2 : Int) ^ b = 2 * h ∧ 1 ≤ h ∧ h ≤ 2147483648 := by
  obtain ⟨c, rfl⟩ : ∃ c, b = c + 1 := ⟨b - 1, by omega⟩
  refine ⟨2 ^ c, by rw [Int.pow_succ, Int.mul_comm], Int.pow_pos (by decide), ?_⟩
  have : ∀ c : Fin 32, (2 : Int) ^ c.val ≤ 2147483648 := by decide
  exact this ⟨c, by omega⟩
theorem shl_one (b : Nat) (h2 : b ≤ 32) : shl .i64 1 (b : Int) = 2 ^ b := by
  have : ∀ b : Fin 33, shl .i64 1 (b.val : Int) = 2 ^ b.val := by decide +kernel
  exact this ⟨b, by omega⟩
theorem shr_pow (x : Int) (b : Nat) (h2 : b ≤ 32) : shr .i64 x (b : Int) = x / 2 ^ b := by
  unfold shr
  rw [Int.toNat_natCast, Nat.min_eq_left (show b ≤ IntKind.i64.bits by simp only [IntKind.bits]; omega)]
theorem and_low (n : Int) (b : Nat) (h2 : b ≤ 32) (h0 : 0 ≤ n) (h1 : n < 9223372036854775808) : Go.bits .and .i64 n (2 ^ b - 1) = n % 2 ^ b :=
  bits_mask .i64 63 (by decide) wraps_i64 b (by omega) n h0 (by omega)
theorem andNot_low (n : Int) (b : Nat) (h2 : b ≤ 32) (h0 : 0 ≤ n) (h1 : n < 9223372036854775808) : Go.bits .andNot .i64 n (2 ^ b - 1) = n / 2 ^ b * 2 ^ b := by
  obtain ⟨a, rfl⟩ := Int.eq_ofNat_of_zero_le h0
  have ha : a < 2 ^ 63 := by omega
  have hp : 0 < 2 ^ b := Nat.two_pow_pos b
  have hc : ((2 : Int) ^ b - 1) = ((2 ^ b - 1 : Nat) : Int) := by rw [Int.natCast_sub hp]; simp
  have hb : 2 ^ b ≤ 2 ^ 32 := Nat.pow_le_pow_right (by decide) h2
  have hv : (BitVec.ofInt 64 (a : Int) &&& ~~~ BitVec.ofInt 64 (((2 ^ b - 1 : Nat)) : Int)) = BitVec.ofNat 64 (a / 2 ^ b * 2 ^ b) := by
    apply BitVec.eq_of_getLsbD_eq
    intro i hi
    rw [BitVec.getLsbD_and, BitVec.getLsbD_not, BitVec.ofInt_natCast, BitVec.ofInt_natCast, BitVec.getLsbD_ofNat, BitVec.getLsbD_ofNat, BitVec.getLsbD_ofNat]
    have e1 : (a / 2 ^ b * 2 ^ b).testBit i = (decide (b ≤ i) && a.testBit i) := by
      rw [Nat.mul_comm, Nat.testBit_two_pow_mul, Nat.testBit_div_two_pow]
      by_cases hbi : b ≤ i
      · simp [hbi]
      · simp [hbi]
    rw [e1, Nat.testBit_two_pow_sub_one]
    by_cases hbi : b ≤ i
    · simp [hi, hbi, Nat.not_lt.mpr hbi]
    · simp [hi, hbi, Nat.lt_of_not_le hbi]
  have hle : a / 2 ^ b * 2 ^ b ≤ a := Nat.div_mul_le_self a (2 ^ b)
  rw [hc]
  show IntKind.i64.wrap _ = _
  have e2 : ((BitVec.ofInt IntKind.i64.bits (a : Int) &&& ~~~ BitVec.ofInt IntKind.i64.bits (((2 ^ b - 1 : Nat)) : Int)).toNat : Int) = ((a / 2 ^ b * 2 ^ b : Nat) : Int) := by
    show ((BitVec.ofInt 64 (a : Int) &&& ~~~ BitVec.ofInt 64 (((2 ^ b - 1 : Nat)) : Int)).toNat : Int) = _
    rw [hv, BitVec.toNat_ofNat, Nat.mod_eq_of_lt (by omega)]
  rw [e2, wraps_i64 _ (by omega) (by omega)]
  simp
/-- The whole number of v, of so many bits, near n. -/
def wholeI (n v : Int) (b : Nat) : Int := if n ≤ n / 2 ^ b * 2 ^ b + v ∧ 2 ^ b / 2 ≤ n / 2 ^ b * 2 ^ b + v - n ∧ 2 ^ b ≤ n / 2 ^ b * 2 ^ b + v then n / 2 ^ b * 2 ^ b + v - 2 ^ b else if n / 2 ^ b * 2 ^ b + v < n ∧ 2 ^ b / 2 < n - (n / 2 ^ b * 2 ^ b + v) then n / 2 ^ b * 2 ^ b + v + 2 ^ b else n / 2 ^ b * 2 ^ b + v
def Fair (n v bits : Int) : Prop := 0 ≤ n ∧ n ≤ 1099511627776 ∧ 1 ≤ bits ∧ bits ≤ 32 ∧ 0 ≤ v ∧ v < 2 ^ bits.toNat
instance (n v bits : Int) : Decidable (Fair n v bits) := by unfold Fair; infer_instance
/-- What n leaves. -/
theorem div_parts (n r : Int) (h0 : 0 ≤ n) (hr : 0 < r) : 0 ≤ n / r * r ∧ n / r * r ≤ n ∧ n < n / r * r + r ∧ (n / r = 0 ∧ n / r * r = 0 ∨ r ≤ n / r * r) := by
  have h1 := Int.emod_nonneg n (Int.ne_of_gt hr)
  have h2 := Int.emod_lt_of_pos n hr
  have h3 := Int.mul_ediv_add_emod n r
  rw [Int.mul_comm] at h3
  have h4 : 0 ≤ n / r := Int.ediv_nonneg h0 (Int.le_of_lt hr)
  have h5 : 0 ≤ n / r * r := Int.mul_nonneg h4 (Int.le_of_lt hr)
  refine ⟨h5, by omega, by omega, ?_⟩
  by_cases hq : n / r = 0
  · left
    rw [hq]
    simp
  · right
    have : 1 * r ≤ n / r * r := Int.mul_le_mul_of_nonneg_right (by omega) (Int.le_of_lt hr)
    omega
theorem or_whole (n v : Int) (b : Nat) (h2 : b ≤ 32) (h0 : 0 ≤ n) (h1 : n ≤ 1099511627776) (hv0 : 0 ≤ v) (hv1 : v < 2 ^ b) : Go.bits .or .i64 (n / 2 ^ b * 2 ^ b) v = n / 2 ^ b * 2 ^ b + v := by
  have hp : (0 : Int) < 2 ^ b := Int.pow_pos (by decide)
  have hd := div_parts n (2 ^ b) h0 hp
  have hle : (2 : Int) ^ b ≤ 4294967296 := by
    have : ∀ c : Fin 33, (2 : Int) ^ c.val ≤ 4294967296 := by decide
    exact this ⟨b, by omega⟩
  exact bits_join .i64 63 (by decide) wraps_i64 b _ _ hd.1 (Int.mul_emod_left _ _) (by omega) hv0 hv1 (by omega)
end Go.Proofs.Yteoclecadpapfaa.G
