/- Whole numbers as bytes, the lowest byte first, and back. -/
import Derived.Test.YteoclecadpapfaaM3
namespace Go.Proofs.Yteoclecadpapfaa.G
open Go.RowKit Go.Proofs.YteoclecadpapfaaW.PrintWords Go.Proofs.YteoclecadpapfaaW.PrintMore
theorem wrap64_of {x : Int} (h0 : -9223372036854775808 ≤ x) (h1 : x ≤ 9223372036854775807) : wrap64 x = x := by unfold wrap64; omega
theorem wraps_i64 (n : Int) (h₀ : 0 ≤ n) (h₁ : n < 2 ^ 63) : IntKind.i64.wrap n = n := by rw [IntKind.wrap_i64]; omega
theorem wraps_u64 (n : Int) (h₀ : 0 ≤ n) (h₁ : n < 2 ^ 64) : IntKind.u64.wrap n = n := by
  have e : IntKind.u64.wrap n = n % 18446744073709551616 := by simp [IntKind.wrap, IntKind.bits, IntKind.signed]
  rw [e]
  omega
theorem bits_comm_or (k : IntKind) (a b : Int) : Go.bits .or k a b = Go.bits .or k b a := by
  simp only [bits, BitVec.or_comm]
/-- The number of bytes, the lowest one first. -/
def valI : List Int → Int
  | [] => 0
  | x :: l => x + 256 * valI l
/-- A number's bytes, the lowest one first. -/
def lowI (v : Int) : Nat → List Int
  | 0 => []
  | n + 1 => v % 256 :: lowI (v / 256) n
theorem lowI_length (v : Int) (n : Nat) : (lowI v n).length = n := by
  induction n generalizing v with
  | zero => rfl
  | succ n ih => simp [lowI, ih]
theorem lowI_ok (v : Int) (n : Nat) : okB (lowI v n) := by
  induction n generalizing v with
  | zero => intro x hx; simp [lowI] at hx
  | succ n ih =>
    intro x hx
    rw [lowI, List.mem_cons] at hx
    rcases hx with rfl | hx
    · omega
    · exact ih _ x hx
theorem valI_nonneg {l : List Int} (h : okB l) : 0 ≤ valI l := by
  induction l with
  | nil => exact Int.le_refl _
  | cons x l ih =>
    have h1 := h x (by simp)
    have h2 := ih (fun y hy => h y (by simp [hy]))
    rw [valI]
    omega
theorem valI_lt {l : List Int} (h : okB l) : valI l < 2 ^ (8 * l.length) := by
  induction l with
  | nil => decide
  | cons x l ih =>
    have h1 := h x (by simp)
    have h2 := ih (fun y hy => h y (by simp [hy]))
    rw [valI, List.length_cons, Nat.mul_succ, Int.pow_add]
    generalize (2 : Int) ^ (8 * l.length) = q at h2 ⊢
    have : (2 : Int) ^ 8 = 256 := by decide
    rw [this]
    omega
theorem valI_append (a b : List Int) : valI (a ++ b) = valI a + 2 ^ (8 * a.length) * valI b := by
  induction a with
  | nil => simp [valI]
  | cons x a ih =>
    rw [List.cons_append, valI, valI, ih, List.length_cons, Nat.mul_succ, Int.pow_add, show (2 : Int) ^ 8 = 256 by decide, Int.mul_add, ← Int.add_assoc, ← Int.mul_assoc, Int.mul_comm (256 : Int) (2 ^ _)]
theorem take_succ_rd (b : List Int) (k : Nat) (hk : k < b.length) : b.take (k + 1) = b.take k ++ [rd b (k : Int)] := by
  rw [List.take_succ_eq_append_getElem hk]
  unfold rd
  rw [Int.toNat_natCast, List.getD_eq_getElem?_getD, List.getElem?_eq_getElem hk]
  rfl
theorem valI_take (b : List Int) (k : Nat) (hk : k < b.length) : valI (b.take (k + 1)) = valI (b.take k) + rd b (k : Int) * 2 ^ (8 * k) := by
  rw [take_succ_rd b k hk, valI_append, List.length_take, Nat.min_eq_left (by omega)]
  simp only [valI]
  rw [Int.mul_zero, Int.add_zero, Int.mul_comm]
theorem valI_low (v : Int) (n : Nat) (h0 : 0 ≤ v) (h1 : v < 2 ^ (8 * n)) : valI (lowI v n) = v := by
  induction n generalizing v with
  | zero =>
    simp only [Nat.mul_zero, Int.pow_zero] at h1
    simp only [lowI, valI]
    omega
  | succ n ih =>
    rw [lowI, valI]
    rw [Nat.mul_succ, Int.pow_add, show (2 : Int) ^ 8 = 256 by decide] at h1
    rw [ih (v / 256) (by omega) ?_]
    · omega
    · generalize (2 : Int) ^ (8 * n) = q at h1 ⊢
      omega
theorem lowI_val (l : List Int) (h : okB l) : lowI (valI l) l.length = l := by
  induction l with
  | nil => rfl
  | cons x l ih =>
    have h1 := h x (by simp)
    have h2 := ih (fun y hy => h y (by simp [hy]))
    rw [List.length_cons, lowI, valI]
    have e1 : (x + 256 * valI l) % 256 = x := by omega
    have e2 : (x + 256 * valI l) / 256 = valI l := by omega
    rw [e1, e2, h2]
/-- A byte goes above what there is, by 'or'. -/
theorem or_byte (acc x : Int) (i : Nat) (hi : i ≤ 6) (h0 : 0 ≤ acc) (h1 : acc < 2 ^ (8 * i)) (hx0 : 0 ≤ x) (hx1 : x < 256) : Go.bits .or .i64 acc (shl .i64 (wrap64 x) (wrap64 (8 * (i : Int)))) = acc + x * 2 ^ (8 * i) := by
  have e1 : wrap64 x = x := wrap64_of (by omega) (by omega)
  have e2 : wrap64 (8 * (i : Int)) = ((8 * i : Nat) : Int) := by rw [wrap64_of (by omega) (by omega)]; omega
  have hp : (0 : Int) < 2 ^ (8 * i) := Int.pow_pos (by decide)
  have hlt : x * 2 ^ (8 * i) < 2 ^ 63 := by
    have h2 : x * 2 ^ (8 * i) ≤ 255 * 2 ^ (8 * i) := Int.mul_le_mul_of_nonneg_right (by omega) (Int.le_of_lt hp)
    have h3 : (255 : Int) * 2 ^ (8 * i) < 2 ^ 63 := by
      have : ∀ j : Fin 7, (255 : Int) * 2 ^ (8 * j.val) < 2 ^ 63 := by decide
      exact this ⟨i, by omega⟩
    omega
  have hnn : 0 ≤ x * 2 ^ (8 * i) := Int.mul_nonneg hx0 (Int.le_of_lt hp)
  have e3 : shl .i64 x ((8 * i : Nat) : Int) = x * 2 ^ (8 * i) := by
    unfold shl
    rw [Int.toNat_natCast, Nat.min_eq_left (show 8 * i ≤ IntKind.i64.bits by simp only [IntKind.bits]; omega)]
    exact wraps_i64 _ hnn hlt
  rw [e1, e2, e3, bits_comm_or]
  have hq : (2 : Int) ^ (8 * i) ≤ 2 ^ 63 := by
    have : ∀ j : Fin 7, (2 : Int) ^ (8 * j.val) ≤ 2 ^ 63 := by decide
    exact this ⟨i, by omega⟩
  rw [bits_join .i64 63 (by decide) wraps_i64 (8 * i) (x * 2 ^ (8 * i)) acc hnn (Int.mul_emod_left _ _) hlt h0 h1 (by omega), Int.add_comm]
end Go.Proofs.Yteoclecadpapfaa.G
