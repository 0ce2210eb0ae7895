/- Whole numbers as bytes, the lowest byte first, and back. -/
import Derived.Test.YteoclecadpapfaaM3
namespace Go.Proofs.Yteoclecadpapfaa.G
open Go.RowKit Go.Proofs.YteoclecadpapfaaW.PrintWords Go.Proofs.YteoclecadpapfaaW.PrintMore
theorem wrap64_of {x : Int} (h0 : -9223372036854775808 ≤ x) (h1 : x ≤ 9223372036854775807) : wrap64 x = x := by unfold wrap64; omega
theorem wraps_u64 (n : Int) (h₀ : 0 ≤ n) (h₁ : n < 2 ^ 64) : IntKind.u64.wrap n = n := by
  have e : IntKind.u64.wrap n = n % 18446744073709551616 := by simp [IntKind.wrap, IntKind.bits, IntKind.signed]
  rw [e]
  omega
theorem bits_comm_or (k : IntKind) (a b : Int) : Go.bits .or k a b = Go.bits .or k b a := by
  simp only [bits, BitVec.or_comm]
/-- The number of bytes, the lowest one first. -/
def valI : List Int → Int
  | [] => 0
  | x :: l => x + 256 * valI l
/-- A number's bytes, the lowest one first. -/
def lowI (v : Int) : Nat → List Int
  | 0 => []
  | n + 1 => v % 256 :: lowI (v / 256) n
theorem lowI_length (v : Int) (n : Nat) : (lowI v n).length = n := by
  induction n generalizing v with
  | zero => rfl
  | succ n ih => simp [lowI, ih]
theorem lowI_ok (v : Int) (n : Nat) : okB (lowI v n) := by
  induction n generalizing v with
  | zero => intro x hx; simp [lowI] at hx
  | succ n ih =>
    intro x hx
    rw [lowI, List.mem_cons] at hx
    rcases hx with rfl | hx
    · omega
    · exact ih _ x hx
theorem valI_nonneg {l : List Int} (h : okB l) : 0 ≤ valI l := by
  induction l with
  | nil => exact Int.le_refl _
  | cons x l ih =>
    have h1 := h x (by simp)
    have h2 := ih (fun y hy => h y (by simp [hy]))
    rw [valI]
    omega
theorem valI_lt {l : List Int} (h : okB l) : valI l < 2 ^ (8 * l.length) := by
  induction l with
  | nil => decide
  | cons x l ih =>
    have h1 := h x (by simp)
    have h2 := ih (fun y hy => h y (by simp [hy]))
    rw [valI, List.length_cons, Nat.mul_succ, Int.pow_add]
    generalize (2 : Int) ^ (8 * l.length) = q at h2 ⊢
    have : (2 : Int) ^ 8 = 256 := by decide
    rw [this]
    omega
theorem valI_append (a b : List Int) : valI (a ++ b) = valI a + 2 ^ (8 * a.length) * valI b := by
  induction a with
  | nil => simp [valI]
  | cons x a ih =>
    rw [List.cons_append, valI, valI, ih, List.length_cons, Nat.mul_succ, Int.pow_add, show (2 : Int) ^ 8 = 256 by decide, Int.mul_add, ← Int.add_assoc, ← Int.mul_assoc, Int.mul_comm (256 : Int) (2 ^ _)]
theorem take_succ_rd (b : List Int) (k : Nat) (hk : k < b.length) : b.take (k + 1) = b.take k ++ [rd b (k : Int)] := by
  rw [List.take_succ_eq_append_getElem hk]
  unfold rd
  rw [Int.toNat_natCast, List.getD_eq_getElem?_getD, List.getElem?_eq_getElem hk]
  rfl
theorem valI_take (b : List Int) (k : Nat) (hk : k < b.length) : valI (b.take (k + 1)) = valI (b.take k) + rd b (k : Int) * 2 ^ (8 * k) := by
  rw [take_succ_rd b k hk, valI_append, List.length_take, Nat.min_eq_left (by omega)]
  simp only [valI]
  rw [Int.mul_zero, Int.add_zero, Int.mul_comm]
theorem valI_low (v : Int) (n : Nat) (h0 : 0 ≤ v) (h1 : v < 2 ^ (8 * n)) : valI (lowI v n) = v := by
  induction n generalizing v with
  | zero =>
    simp only [Nat.mul_zero, Int.pow_zero] at h1
    simp only [lowI, valI]
    omega
  | succ n ih =>
    rw [lowI, valI]
    rw [Nat.mul_succ, Int.pow_add, show (2 : Int) ^ 8 = 256 by decide] at h1
    rw [ih (v / 256) (by omega) ?_]
    · omega
    · generalize (2 : Int) ^ (8 * n) = q at h1 ⊢
      omega
end Go.Proofs.Yteoclecadpapfaa.G
