/- The published CRC-32 as a plain function on natural numbers: bits that are turned within 32 bits, one behind the other, change the sum. -/
import Derived.Test.YteoclecadpapfaaWWords
import Derived.Laws.BitsLemmas
namespace Go.Proofs.Yteoclecadpapfaa.G
open Go.RowKit Go.Proofs.YteoclecadpapfaaW.PrintWords

/-! ### exclusive or of whole numbers of 32 bits -/
theorem bits_xor_nat (k : IntKind) (j : Nat) (hj : j ≤ k.bits) (hk : ∀ n : Int, 0 ≤ n → n < 2 ^ j → k.wrap n = n) (a b : Nat) (ha : a < 2 ^ j) (hb : b < 2 ^ j) :
    Go.bits .xor k a b = ((a ^^^ b : Nat) : Int) := by
  have hp : 2 ^ j ≤ 2 ^ k.bits := Nat.pow_le_pow_right (by decide) hj
  have ha' : a % 2 ^ k.bits = a := Nat.mod_eq_of_lt (Nat.lt_of_lt_of_le ha hp)
  have hb' : b % 2 ^ k.bits = b := Nat.mod_eq_of_lt (Nat.lt_of_lt_of_le hb hp)
  simp only [bits, BitVec.ofInt_natCast, BitVec.toNat_xor, BitVec.toNat_ofNat, ha', hb']
  refine hk _ (Int.natCast_nonneg _) ?_
  have := Nat.xor_lt_two_pow ha hb
  exact_mod_cast this
theorem wraps_u32 (n : Int) (h₀ : 0 ≤ n) (h₁ : n < 2 ^ 32) : IntKind.u32.wrap n = n := by rw [IntKind.wrap_u32]; omega
theorem xor_u32 (a b : Nat) (ha : a < 4294967296) (hb : b < 4294967296) : Go.bits .xor .u32 a b = ((a ^^^ b : Nat) : Int) := bits_xor_nat .u32 32 (by decide) wraps_u32 a b ha hb
theorem xor_u8 (a b : Nat) (ha : a < 256) (hb : b < 256) : Go.bits .xor .u8 a b = ((a ^^^ b : Nat) : Int) := bits_xor_nat .u8 8 (by decide) wraps_u8 a b ha hb
theorem bits_u8_range (op : BinOp) (a b : Int) : 0 ≤ Go.bits op .u8 a b ∧ Go.bits op .u8 a b < 256 := by
  unfold Go.bits
  rw [IntKind.wrap_u8]
  omega
theorem bits_u32_range (op : BinOp) (a b : Int) : 0 ≤ Go.bits op .u32 a b ∧ Go.bits op .u32 a b < 4294967296 := by
  unfold Go.bits
  rw [IntKind.wrap_u32]
  omega
theorem bits_comm_xor (k : IntKind) (a b : Int) : Go.bits .xor k a b = Go.bits .xor k b a := by
  simp only [bits, BitVec.xor_comm]

/-! ### the register, and bits that go into it -/
def polyN : Nat := 3988292384
def stepN (c : Nat) : Nat := c / 2 ^^^ (if c % 2 = 1 then polyN else 0)
def stepsN : Nat → Nat → Nat
  | 0, c => c
  | n + 1, c => stepsN n (stepN c)
theorem stepN_xor (a b : Nat) : stepN (a ^^^ b) = stepN a ^^^ stepN b := by
  have h1 : (a ^^^ b) / 2 = a / 2 ^^^ b / 2 := by
    apply Nat.eq_of_testBit_eq
    intro i
    simp [Nat.testBit_div_two]
  have h2 : (a ^^^ b) % 2 = (a % 2 + b % 2) % 2 := by
    have h := Nat.testBit_xor a b 0
    simp only [Nat.testBit_zero] at h
    rcases Nat.mod_two_eq_zero_or_one a with ha | ha <;> rcases Nat.mod_two_eq_zero_or_one b with hb | hb <;> rcases Nat.mod_two_eq_zero_or_one (a ^^^ b) with hc | hc <;> simp_all
  unfold stepN
  rw [h1, h2]
  rcases Nat.mod_two_eq_zero_or_one a with ha | ha <;> rcases Nat.mod_two_eq_zero_or_one b with hb | hb <;> simp only [ha, hb]
  · simp
  · simp [Nat.xor_assoc]
  · simp only [if_true, Nat.zero_ne_one, if_false, Nat.xor_zero]
    rw [Nat.xor_assoc, Nat.xor_comm (b / 2), ← Nat.xor_assoc]
  · simp [Nat.xor_assoc]
    rw [← Nat.xor_assoc polyN, Nat.xor_comm polyN, Nat.xor_assoc, Nat.xor_self, Nat.xor_zero]
theorem stepsN_xor (n a b : Nat) : stepsN n (a ^^^ b) = stepsN n a ^^^ stepsN n b := by
  induction n generalizing a b with
  | zero => rfl
  | succ n ih => rw [stepsN, stepN_xor, ih]; rfl
theorem stepsN_add (m n c : Nat) : stepsN (m + n) c = stepsN n (stepsN m c) := by
  induction m generalizing c with
  | zero => simp [stepsN]
  | succ m ih => rw [Nat.succ_add]; exact ih _
theorem stepN_even (q : Nat) : stepN (2 * q) = q := by
  unfold stepN
  rw [if_neg (by omega), Nat.xor_zero]
  omega
theorem stepsN_shift (n q : Nat) : stepsN n (q * 2 ^ n) = q := by
  induction n with
  | zero => simp [stepsN]
  | succ n ih =>
    rw [stepsN, Nat.pow_succ, show q * (2 ^ n * 2) = 2 * (q * 2 ^ n) by rw [← Nat.mul_assoc, Nat.mul_comm], stepN_even]
    exact ih
theorem stepN_lt {c : Nat} (h : c < 4294967296) : stepN c < 4294967296 := by
  unfold stepN
  have h1 : c / 2 < 2 ^ 32 := by omega
  split
  · exact Nat.xor_lt_two_pow h1 (by decide)
  · exact Nat.xor_lt_two_pow h1 (by decide)
theorem stepsN_lt {c : Nat} (h : c < 4294967296) (n : Nat) : stepsN n c < 4294967296 := by
  induction n generalizing c with
  | zero => exact h
  | succ n ih => exact ih (stepN_lt h)
theorem stepN_pos {c : Nat} (h : c < 4294967296) (h0 : c ≠ 0) : stepN c ≠ 0 := by
  unfold stepN
  split
  · intro e
    have h1 : (c / 2 ^^^ polyN).testBit 31 = true := by
      rw [Nat.testBit_xor, Nat.testBit_lt_two_pow (by omega : c / 2 < 2 ^ 31)]
      rfl
    rw [e] at h1
    simp at h1
  · rw [Nat.xor_zero]; omega
theorem stepsN_pos {c : Nat} (h : c < 4294967296) (h0 : c ≠ 0) (n : Nat) : stepsN n c ≠ 0 := by
  induction n generalizing c with
  | zero => exact h0
  | succ n ih => exact ih (stepN_lt h) (stepN_pos h h0)

/-! ### bytes as one number, the first one lowest -/
def valN : List Nat → Nat
  | [] => 0
  | x :: l => x ^^^ valN l * 256
def feedN (c : Nat) (l : List Nat) : Nat := l.foldl (fun c x => stepsN 8 (c ^^^ x)) c
theorem feedN_eq (l : List Nat) (c : Nat) : feedN c l = stepsN (8 * l.length) (c ^^^ valN l) := by
  induction l generalizing c with
  | nil => simp [feedN, valN, stepsN]
  | cons x l ih =>
    rw [show feedN c (x :: l) = feedN (stepsN 8 (c ^^^ x)) l from rfl, ih, List.length_cons, Nat.mul_succ, Nat.add_comm, stepsN_add, valN, ← Nat.xor_assoc, stepsN_xor 8 (c ^^^ x)]
    rw [show (256 : Nat) = 2 ^ 8 from rfl, stepsN_shift]
/-- What is turned within 32 bits, one behind the other, is seen. -/
theorem feedN_burst (c : Nat) (l l' : List Nat) (hl : l'.length = l.length) (f e : Nat) (hf : f ≤ 8 * l.length) (he : e < 4294967296) (he0 : e ≠ 0) (hv : valN l' = valN l ^^^ e * 2 ^ f) : feedN c l' ≠ feedN c l := by
  rw [feedN_eq, feedN_eq, hl, hv, ← Nat.xor_assoc, stepsN_xor]
  intro h
  have h1 : stepsN (8 * l.length) (e * 2 ^ f) = 0 := by
    have := congrArg (fun z => stepsN (8 * l.length) (c ^^^ valN l) ^^^ z) h
    simp only [← Nat.xor_assoc, Nat.xor_self, Nat.zero_xor] at this
    exact this
  have h2 : 8 * l.length = f + (8 * l.length - f) := by omega
  rw [h2, stepsN_add, stepsN_shift] at h1
  exact stepsN_pos he he0 _ h1
theorem xor_mul256 (a b : Nat) : (a ^^^ b) * 256 = a * 256 ^^^ b * 256 := by
  have h := @Nat.shiftLeft_xor_distrib 8 a b
  rw [Nat.shiftLeft_eq, Nat.shiftLeft_eq, Nat.shiftLeft_eq] at h
  exact h
theorem pow_256 (n : Nat) : 2 ^ n * 256 = 2 ^ (n + 8) := by rw [Nat.pow_add]
theorem valN_set (l : List Nat) (k j : Nat) (hk : k < l.length) : valN (l.set k (l.getD k 0 ^^^ 2 ^ j)) = valN l ^^^ 2 ^ (8 * k + j) := by
  induction l generalizing k with
  | nil => simp at hk
  | cons x l ih =>
    cases k with
    | zero =>
      simp only [List.set_cons_zero, valN, List.getD_cons_zero, Nat.mul_zero, Nat.zero_add]
      rw [Nat.xor_assoc, Nat.xor_comm (2 ^ j), Nat.xor_assoc]
    | succ k =>
      simp only [List.set_cons_succ, valN, List.getD_cons_succ]
      rw [ih k (by simpa using hk), xor_mul256, pow_256, ← Nat.xor_assoc, show 8 * (k + 1) + j = 8 * k + j + 8 by omega]
/-! ### the table -/
def stepI (c : Int) : Int := Go.bits .xor .u32 (c / 2) ((3988292384 * (Go.bits .and .u32 c 1)) % 4294967296)
def tab8 (c : Int) : Int := stepI (stepI (stepI (stepI (stepI (stepI (stepI (stepI c)))))))
/-- The table. -/
def tabL : List Int := (List.range 256).map fun (i : Nat) => tab8 (i : Int)
theorem tabL_length : tabL.length = 256 := by simp [tabL]
theorem tab8_nat : (List.range 256).all (fun (i : Nat) => tab8 (i : Int) == ((stepsN 8 i : Nat) : Int)) = true := by decide +kernel
theorem tabL_get (i : Nat) (h : i < 256) : rd tabL i = ((stepsN 8 i : Nat) : Int) := by
  have h1 := List.all_eq_true.mp tab8_nat i (List.mem_range.mpr h)
  rw [← beq_iff_eq.mp h1]
  unfold rd tabL
  rw [Int.toNat_natCast, List.getD_eq_getElem?_getD, List.getElem?_map, List.getElem?_range h]
  rfl
/-- A byte goes into the register by the table. -/
def addS (t : List Int) (c x : Int) : Int := Go.bits .xor .u32 (c / 256) (rd t (Go.bits .xor .u8 (c % 256) x))
/-- Bytes go into the register. -/
def addI (t : List Int) (c : Int) (b : List Int) : Int := b.foldl (addS t) c
theorem addI_append (t : List Int) (c : Int) (a b : List Int) : addI t c (a ++ b) = addI t (addI t c a) b := by simp [addI]
theorem addI_snoc (t : List Int) (c : Int) (b : List Int) (k : Nat) (hk : k < b.length) : addI t c (b.take (k + 1)) = addS t (addI t c (b.take k)) (rd b k) := by
  have e : b.take (k + 1) = b.take k ++ [rd b k] := by
    rw [List.take_succ_eq_append_getElem hk]
    unfold rd
    rw [Int.toNat_natCast, List.getD_eq_getElem?_getD, List.getElem?_eq_getElem hk]
    rfl
  rw [e]
  unfold addI
  rw [List.foldl_append]
  rfl
def okB (b : List Int) : Prop := ∀ x ∈ b, 0 ≤ x ∧ x < 256
def natL (b : List Int) : List Nat := b.map Int.toNat
theorem addS_tab (c x : Nat) (hc : c < 4294967296) (hx : x < 256) : addS tabL c x = ((stepsN 8 (c ^^^ x) : Nat) : Int) := by
  have e1 : ((c : Int) / 256) = ((c / 256 : Nat) : Int) := by omega
  have e2 : ((c : Int) % 256) = ((c % 256 : Nat) : Int) := by omega
  have hi : c % 256 ^^^ x < 256 := Nat.xor_lt_two_pow (n := 8) (by omega) hx
  unfold addS
  rw [e1, e2, xor_u8 _ _ (by omega) hx, tabL_get _ hi, xor_u32 _ _ (by omega) (stepsN_lt (by omega) 8)]
  congr 1
  have e3 : c ^^^ x = c / 256 * 2 ^ 8 ^^^ (c % 256 ^^^ x) := by
    rw [← Nat.xor_assoc]
    congr 1
    have h1 : c % 256 < 2 ^ 8 := by omega
    have h2 := Nat.two_pow_add_eq_or_of_lt h1 (c / 256)
    have h3 : c / 256 * 2 ^ 8 ^^^ c % 256 = 2 ^ 8 * (c / 256) ||| c % 256 := by
      rw [Nat.mul_comm]
      apply Nat.eq_of_testBit_eq
      intro i
      rw [Nat.testBit_xor, Nat.testBit_or, Nat.testBit_two_pow_mul]
      by_cases hi8 : 8 ≤ i
      · rw [Nat.testBit_lt_two_pow (Nat.lt_of_lt_of_le h1 (Nat.pow_le_pow_right (by decide) hi8))]
        simp
      · simp [hi8]
    rw [h3, ← h2]
    omega
  have e4 : stepsN 8 (c ^^^ x) = c / 256 ^^^ stepsN 8 (c % 256 ^^^ x) := by rw [e3, stepsN_xor 8 (c / 256 * 2 ^ 8), stepsN_shift]
  exact e4.symm
theorem addI_tab (b : List Int) (c : Nat) (hc : c < 4294967296) (hb : okB b) : addI tabL c b = ((feedN c (natL b) : Nat) : Int) := by
  induction b generalizing c with
  | nil => rfl
  | cons x b ih =>
    obtain ⟨h0, h1⟩ := hb x (by simp)
    obtain ⟨n, rfl⟩ := Int.eq_ofNat_of_zero_le h0
    have hn : n < 256 := by omega
    show addI tabL (addS tabL c n) b = _
    rw [addS_tab c n hc hn, ih _ (stepsN_lt (Nat.xor_lt_two_pow (n := 32) hc (by omega)) 8) (fun y hy => hb y (by simp [hy]))]
    rfl
end Go.Proofs.Yteoclecadpapfaa.G
