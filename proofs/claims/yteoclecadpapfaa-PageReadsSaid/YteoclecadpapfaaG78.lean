/- What a call of psaltery/psalteryref18.value does, told by a plain Lean function of its arguments. Written by a program for this claim. -/
import Derived.Test.YteoclecadpapfaaG0
import Derived.Test.YteoclecadpapfaaM4
namespace Go.Proofs.Yteoclecadpapfaa.G
open Go.RowKit Go.Proofs.YteoclecadpapfaaW.PrintWords Go.Proofs.YteoclecadpapfaaW.PrintLast Go.Proofs.YteoclecadpapfaaW.PrintMore
attribute [local go_sem] max2_int min2_int max_two min_two max_three min_three max_four min_four
set_option linter.unusedVariables false
set_option linter.unusedSimpArgs false

/-! ### psalteryref18_value_raw: function 78 -/
def psalteryref18_value_raw.l0 : Nat → List Int → Int → Int → Option (Int)
 | 0, _, _, _ => none
 | k + 1, x0, x3, x4 => if x4 ≥ 0 then (if 0 ≤ x4 then (if x4 < (x0.length : Int) then (psalteryref18_value_raw.l0 k x0 (IntKind.u64.wrap ((IntKind.u64.wrap (x3 * 256)) + (IntKind.u64.wrap (rd x0 x4)))) (wrap64 (x4 - 1))) else (none)) else (none)) else (some x3)
def psalteryref18_value_raw.f (k : Nat) (l0 : List Int) : Option (Int) := psalteryref18_value_raw.l0 k l0 0 (wrap64 ((l0.length : Int) - 1))
set_option maxHeartbeats 8000000 in
set_option maxRecDepth 100000 in
theorem psalteryref18_value_raw.calls (k : Nat) (A0 : Option Addr) (c0 : Nat) (l0 : List Int) (r : Int) (w : World) (hr0 : Kd.C (Kd.int .u8) w A0 l0.length l0) (hc0 : l0.length ≤ c0) (h : psalteryref18_value_raw.f k l0 = some r) :
  Calls Try.prog 78 #[.slice A0 l0.length c0] w fun e w' => e = .returned (.int .u64 r) ∧ Drawn0 w w' := by
 have HR0 := Aside0.mk hr0
 have HC0 := Aside0.mk hc0
 clear hr0 hc0
 have H : (psalteryref18_value_raw.l0 k l0 0 (wrap64 ((l0.length : Int) - 1))) = some r := h
 clear h
 have H' := Aside0.mk H
 clear H
 go_enter Try.func78, Try.ntmps78
 go_wp2
 go_loopg [3, 4] k (fun kq v3 v4 w' => ∃ (x3_1 : Int) (x4_1 : Int), v3 = .int .u64 x3_1 ∧ v4 = .int .i64 x4_1 ∧ Aside0 (psalteryref18_value_raw.l0 kq l0 x3_1 x4_1 = some r) ∧ Aside0 (kq ≤ k) ∧ Drawn0 w w')
 case atStart => exact ⟨(0), (wrap64 ((l0.length : Int) - 1)), (by first | rfl | (simp; done) | (simp [*]; done)), (by first | rfl | (simp; done) | (simp [*]; done)), H', ⟨Nat.le_refl _⟩, by repeat (first | exact Drawn0.refl _ | apply Drawn0.step)⟩
 case round =>
  clear H'
  obtain ⟨x3_1, x4_1, rfl, rfl, HA, HK1, ⟨m1, rfl⟩⟩ := hrel
  cases gk with
  | zero => exact absurd HA.out (by simp [psalteryref18_value_raw.l0])
  | succ k1 =>
   have H := HA.out
   clear HA
   simp only [psalteryref18_value_raw.l0] at H
   by_cases c2 : x4_1 ≥ 0
   ·rw [if_pos c2] at H
    have c2b0 : decide (0 ≤ x4_1) = true := decide_eq_true c2
    clear c2
    by_cases c3 : 0 ≤ x4_1
    rotate_left
    ·rw [if_neg c3] at H
     exact absurd H (by simp)
    rw [if_pos c3] at H
    have c3b0 : decide (0 ≤ x4_1) = true := decide_eq_true c3
    clear c3
    by_cases c4 : x4_1 < (l0.length : Int)
    rotate_left
    ·rw [if_neg c4] at H
     exact absurd H (by simp)
    rw [if_pos c4] at H
    have c4b0 : decide (x4_1 < (l0.length : Int)) = true := decide_eq_true c4
    clear c4
    have H' := Aside0.mk H
    clear H
    have p101 : 0 ≤ (x4_1 : Int) := of_decide_eq_true (by first | (with_reducible assumption) | assumption)
    have q101 : x4_1 < (l0.length : Int) := of_decide_eq_true (by first | (with_reducible assumption) | assumption)
    obtain ⟨ad101, e101, hx101_0⟩ := Kd.at_int HR0.out x4_1 p101 q101
    cases e101
    replace p101 := eq_true p101
    replace q101 := eq_true q101
    go_wp2
    go_roundg k1
    case measure => have := HK1.out; omega
    case rel => exact ⟨(IntKind.u64.wrap ((IntKind.u64.wrap (x3_1 * 256)) + (IntKind.u64.wrap (rd l0 x4_1)))), (wrap64 (x4_1 - 1)), (by first | rfl | (simp; done) | (simp [*]; done)), (by first | rfl | (simp; done) | (simp [*]; done)), H', ⟨by have := HK1.out; omega⟩, by repeat (first | exact Drawn0.refl _ | apply Drawn0.step)⟩
   ·rw [if_neg c2] at H
    have c2b0 : decide (0 ≤ x4_1) = false := decide_eq_false c2
    clear c2
    obtain rfl := Option.some.inj H
    go_wp2
    go_ret
    exact ⟨by first | rfl | (simp; done) | (simp [*]; done), by repeat (first | exact Drawn0.refl _ | apply Drawn0.step)⟩

def psalteryref18_value.f (b : List Int) : Option Int := if okB b ∧ b.length ≤ 8 then some (valI b) else none
theorem valI_drop18 (b : List Int) (j : Nat) (hj : j < b.length) : valI (b.drop j) = rd b (j : Int) + 256 * valI (b.drop (j + 1)) := by
  have e : b.drop j = rd b (j : Int) :: b.drop (j + 1) := by
    rw [List.drop_eq_getElem_cons hj]
    unfold rd
    rw [Int.toNat_natCast, List.getD_eq_getElem?_getD, List.getElem?_eq_getElem hj]
    rfl
  rw [e, valI]
theorem psalteryref18_value.of {b : List Int} {r : Int} (h : psalteryref18_value.f b = some r) : ∃ k, psalteryref18_value_raw.f k b = some r := by
  unfold psalteryref18_value.f at h
  split at h
  case isFalse => cases h
  case isTrue h0 =>
    obtain ⟨hb, hn⟩ := h0
    injection h with h
    subst h
    refine Ev.rounds ?_
    unfold psalteryref18_value_raw.f
    have go : ∀ d : Nat, d ≤ b.length → Ev (fun k => psalteryref18_value_raw.l0 k b (valI (b.drop d)) ((d : Int) - 1)) (valI b) := by
      intro d hd
      induction d with
      | zero =>
        rw [List.drop_zero]
        refine Ev.step (f := fun _ => some (valI b)) (fun k => ?_) (Ev.now _)
        simp only [psalteryref18_value_raw.l0]
        rw [if_neg (by omega)]
      | succ j ih =>
        refine Ev.step (f := fun k => psalteryref18_value_raw.l0 k b (valI (b.drop j)) ((j : Int) - 1)) (fun k => ?_) (ih (by omega))
        have hx := rd_mem hb (j : Int) (by omega)
        have e0 : ((j + 1 : Nat) : Int) - 1 = (j : Int) := by omega
        have h1 : (j : Int) < (b.length : Int) := by omega
        have h2 : (0 : Int) ≤ (j : Int) := by omega
        have h4 : wrap64 ((j : Int) - 1) = (j : Int) - 1 := by unfold wrap64; omega
        have hlt := valI_lt (okB_drop hb (j + 1))
        have hnn := valI_nonneg (okB_drop hb (j + 1))
        have hl6 : valI (b.drop (j + 1)) < 72057594037927936 := by
          refine Int.lt_of_lt_of_le hlt ?_
          have : ∀ n : Fin 8, (2 : Int) ^ (8 * n.val) ≤ 72057594037927936 := by decide
          exact this ⟨(b.drop (j + 1)).length, by rw [List.length_drop]; omega⟩
        have e1 : IntKind.u64.wrap (valI (b.drop (j + 1)) * 256) = valI (b.drop (j + 1)) * 256 := wraps_u64 _ (by omega) (by omega)
        have e2 : IntKind.u64.wrap (rd b (j : Int)) = rd b (j : Int) := wraps_u64 _ (by omega) (by omega)
        have e3 : IntKind.u64.wrap (valI (b.drop (j + 1)) * 256 + rd b (j : Int)) = valI (b.drop j) := by rw [valI_drop18 b j (by omega), wraps_u64 _ (by omega) (by omega)]; omega
        simp only [psalteryref18_value_raw.l0, e0]
        rw [if_pos (show (j : Int) ≥ 0 from h2), if_pos h2, if_pos h1, e1, e2, e3, h4]
    have hw : wrap64 ((b.length : Int) - 1) = (b.length : Int) - 1 := wrap64_of (by omega) (by omega)
    have := go b.length (Nat.le_refl _)
    rw [List.drop_length] at this
    rw [hw]
    exact this
theorem psalteryref18_value.calls (A0 : Option Addr) (c0 : Nat) (l0 : List Int) (r : Int) (w : World) (hr0 : Kd.C (Kd.int .u8) w A0 l0.length l0) (hc0 : l0.length ≤ c0) (h : psalteryref18_value.f l0 = some r) :
  Calls Try.prog 78 #[.slice A0 l0.length c0] w fun e w' => e = .returned (.int .u64 r) ∧ Drawn0 w w' := by
  obtain ⟨k, hk⟩ := psalteryref18_value.of h
  exact psalteryref18_value_raw.calls k A0 c0 l0 r w hr0 hc0 hk

end Go.Proofs.Yteoclecadpapfaa.G
