/- Bits of a text that are turned one by one: what the text's number becomes, and that its sum is another one. -/
import Derived.Test.YteoclecadpapfaaM2
import Derived.Test.YteoclecadpapfaaWMore
namespace Go.Proofs.Yteoclecadpapfaa.G
open Go.RowKit Go.Proofs.YteoclecadpapfaaW.PrintWords Go.Proofs.YteoclecadpapfaaW.PrintMore
theorem natL_length (l : List Int) : (natL l).length = l.length := by simp [natL]
theorem natL_set (l : List Int) (k : Nat) (v : Int) : natL (l.set k v) = (natL l).set k v.toNat := by simp [natL, List.map_set]
theorem natL_getD (l : List Int) (k : Nat) : (natL l).getD k 0 = (rd l (k : Int)).toNat := by
  unfold natL rd
  rw [Int.toNat_natCast, List.getD_eq_getElem?_getD, List.getD_eq_getElem?_getD, List.getElem?_map]
  cases l[k]? <;> rfl
theorem rd_ok {l : List Int} (h : okB l) (k : Nat) (hk : k < l.length) : 0 ≤ rd l (k : Int) ∧ rd l (k : Int) < 256 := by
  unfold rd
  rw [Int.toNat_natCast, List.getD_eq_getElem?_getD, List.getElem?_eq_getElem hk]
  exact h _ (List.getElem_mem hk)
theorem shl_bit (j : Nat) (hj : j < 8) : shl .u8 1 (j : Int) = ((2 ^ j : Nat) : Int) := by
  have : ∀ j : Fin 8, shl .u8 1 (j.val : Int) = ((2 ^ j.val : Nat) : Int) := by decide +kernel
  exact this ⟨j, hj⟩
/-- One bit is turned. -/
theorem turn_bit (x : List Int) (hx : okB x) (k j : Nat) (hk : k < x.length) (hj : j < 8) :
    okB (x.set k (Go.bits .xor .u8 (rd x (k : Int)) (shl .u8 1 (j : Int)))) ∧ valN (natL (x.set k (Go.bits .xor .u8 (rd x (k : Int)) (shl .u8 1 (j : Int))))) = valN (natL x) ^^^ 2 ^ (8 * k + j) := by
  obtain ⟨h0, h1⟩ := rd_ok hx k hk
  obtain ⟨n, hn⟩ := Int.eq_ofNat_of_zero_le h0
  have hp : 2 ^ j < 256 := Nat.lt_of_lt_of_le (Nat.pow_lt_pow_right (by decide) hj) (by decide)
  have e : Go.bits .xor .u8 (rd x (k : Int)) (shl .u8 1 (j : Int)) = ((n ^^^ 2 ^ j : Nat) : Int) := by
    rw [hn, shl_bit j hj, xor_u8 n (2 ^ j) (by omega) hp]
  have hv : n ^^^ 2 ^ j < 256 := Nat.xor_lt_two_pow (n := 8) (by omega) hp
  rw [e]
  refine ⟨fun y hy => ?_, ?_⟩
  · rcases List.mem_or_eq_of_mem_set hy with hy | rfl
    · exact hx y hy
    · omega
  · rw [natL_set, Int.toNat_natCast]
    have hg : n = (natL x).getD k 0 := by rw [natL_getD, hn, Int.toNat_natCast]
    rw [hg]
    exact valN_set _ _ _ (by rw [natL_length]; exact hk)
/-- x8 is x0, but that bits from place f on, below place f + i, are turned by e. -/
structure Turned (x0 x8 : List Int) (f i e : Nat) (any : Bool) : Prop where
  len : x8.length = x0.length
  ok : okB x8
  val : valN (natL x8) = valN (natL x0) ^^^ e * 2 ^ f
  lt : e < 2 ^ i
  some_ : any = decide (e ≠ 0)
theorem Turned.skip {x0 x8 : List Int} {f i e : Nat} {any : Bool} (h : Turned x0 x8 f i e any) : Turned x0 x8 f (i + 1) e any :=
  ⟨h.len, h.ok, h.val, Nat.lt_of_lt_of_le h.lt (Nat.pow_le_pow_right (by decide) (by omega)), h.some_⟩
theorem Turned.bit {x0 x8 : List Int} {f i e : Nat} {any : Bool} (h : Turned x0 x8 f i e any) (k j : Nat) (hk : k < x0.length) (hj : j < 8) (hkj : 8 * k + j = f + i) :
    Turned x0 (x8.set k (Go.bits .xor .u8 (rd x8 (k : Int)) (shl .u8 1 (j : Int)))) f (i + 1) (e ^^^ 2 ^ i) true := by
  obtain ⟨h1, h2⟩ := turn_bit x8 h.ok k j (by rw [h.len]; exact hk) hj
  refine ⟨by rw [List.length_set, h.len], h1, ?_, ?_, ?_⟩
  · rw [h2, h.val, hkj, Nat.xor_assoc]
    congr 1
    have := @Nat.shiftLeft_xor_distrib f e (2 ^ i)
    rw [Nat.shiftLeft_eq, Nat.shiftLeft_eq, Nat.shiftLeft_eq] at this
    rw [this, Nat.pow_add, Nat.mul_comm (2 ^ f)]
  · exact Nat.xor_lt_two_pow (Nat.lt_of_lt_of_le h.lt (Nat.pow_le_pow_right (by decide) (by omega))) (Nat.pow_lt_pow_right (by decide) (by omega))
  · have : (e ^^^ 2 ^ i).testBit i = true := by
      rw [Nat.testBit_xor, Nat.testBit_lt_two_pow h.lt]
      simp
    symm
    rw [decide_eq_true_iff]
    intro h0
    rw [h0] at this
    simp at this
/-- The sums part just where something was turned. -/
theorem Turned.sums {x0 x8 : List Int} {f i e : Nat} {any : Bool} (h : Turned x0 x8 f i e any) (h0 : okB x0) (hf : f ≤ 8 * x0.length) (hi : i ≤ 32) (c : Nat) (hc : c < 4294967296) : (addI tabL c x8 = addI tabL c x0) ↔ any = false := by
  rw [addI_tab _ _ hc h.ok, addI_tab _ _ hc h0, h.some_]
  have he : e < 4294967296 := Nat.lt_of_lt_of_le h.lt (Nat.le_trans (Nat.pow_le_pow_right (by decide) hi) (by decide))
  have hl : (natL x8).length = (natL x0).length := by rw [natL_length, natL_length, h.len]
  by_cases he0 : e = 0
  · subst he0
    have hv := h.val
    rw [Nat.zero_mul, Nat.xor_zero] at hv
    rw [feedN_eq, feedN_eq, hl, hv]
    simp
  · have := feedN_burst c (natL x0) (natL x8) hl f e (by rw [natL_length]; exact hf) he he0 h.val
    simp only [he0, ne_eq, not_false_eq_true, decide_true, Bool.true_eq_false, iff_false]
    intro h1
    exact this (by exact_mod_cast h1)
end Go.Proofs.Yteoclecadpapfaa.G
