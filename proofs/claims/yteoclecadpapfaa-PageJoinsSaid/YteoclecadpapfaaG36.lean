/- What a call of psaltery/psalteryref18.SameBytes, psaltery/psalteryref18.Same does, told by a plain Lean function of its arguments. Written by a program for this claim. -/
import Derived.Test.YteoclecadpapfaaG0
import Derived.Test.YteoclecadpapfaaM13
import Derived.Test.YteoclecadpapfaaM4
import Derived.Test.YteoclecadpapfaaM23
namespace Go.Proofs.Yteoclecadpapfaa.G
open Go.RowKit Go.Proofs.YteoclecadpapfaaW.PrintWords Go.Proofs.YteoclecadpapfaaW.PrintLast Go.Proofs.YteoclecadpapfaaW.PrintMore
attribute [local go_sem] max2_int min2_int max_two min_two max_three min_three max_four min_four
set_option linter.unusedVariables false
set_option linter.unusedSimpArgs false

/-! ### psalteryref18_SameBytes_raw: function 59 -/
def psalteryref18_SameBytes_raw.l0 : Nat → List (List Int) → List (List Int) → Int → Option (Bool)
 | 0, _, _, _ => none
 | k + 1, x0, x1, x5 => if x5 < (x0.length : Int) then (if 0 ≤ x5 then (if x5 < (x1.length : Int) then (if (strOfNums (rd_L3 x0 x5)).toList = (strOfNums (rd_L3 x1 x5)).toList then (psalteryref18_SameBytes_raw.l0 k x0 x1 (wrap64 (x5 + 1))) else (some false)) else (none)) else (none)) else (some true)
def psalteryref18_SameBytes_raw.f (k : Nat) (l0 : List (List Int)) (l1 : List (List Int)) : Option (Bool) := if (l0.length : Int) = (l1.length : Int) then (psalteryref18_SameBytes_raw.l0 k l0 l1 0) else (some false)
set_option maxHeartbeats 8000000 in
set_option maxRecDepth 100000 in
theorem psalteryref18_SameBytes_raw.calls (k : Nat) (A0 : Option Addr) (c0 : Nat) (l0 : List (List Int)) (A1 : Option Addr) (c1 : Nat) (l1 : List (List Int)) (r : Bool) (w : World) (hr0 : Kd.C (Kd.slice 5 (Kd.int .u8)) w A0 l0.length l0) (hc0 : l0.length ≤ c0) (hr1 : Kd.C (Kd.slice 5 (Kd.int .u8)) w A1 l1.length l1) (hc1 : l1.length ≤ c1) (h : psalteryref18_SameBytes_raw.f k l0 l1 = some r) :
  Calls Try.prog 59 #[.slice A0 l0.length c0, .slice A1 l1.length c1] w fun e w' => e = .returned (.bool r) ∧ Drawn0 w w' := by
 have HR0 := Zma hr0
 have HC0 := Zma hc0
 clear hr0 hc0
 have HR1 := Zma hr1
 have HC1 := Zma hc1
 clear hr1 hc1
 have H : (if (l0.length : Int) = (l1.length : Int) then (psalteryref18_SameBytes_raw.l0 k l0 l1 0) else (some false)) = some r := h
 clear h
 by_cases c3 : (l0.length : Int) = (l1.length : Int)
 ·rw [if_pos c3] at H
  have c3b0 : ((l0.length : Int) == (l1.length : Int)) = true := beq_iff_eq.mpr c3
  have c3b1 : ((l0.length : Int) != (l1.length : Int)) = false := bne_eq_false_iff_eq.mpr c3
  have c3b2 : (l0.length == l1.length) = true := by first | simpa using c3 | (simp at c3 ⊢; omega)
  clear c3
  have H' := Zma H
  clear H
  go_enter Try.func59, Try.ntmps59
  go_wp2
  repeat (go_quiet (fail); try go_wp2)
  go_loopg [5] k (fun kq v5 w' => ∃ (x5_1 : Int), v5 = .int .i64 x5_1 ∧ Aside0 (psalteryref18_SameBytes_raw.l0 kq l0 l1 x5_1 = some r) ∧ Aside0 (kq ≤ k) ∧ Drawn0 w w')
  case atStart => exact ⟨(0), (by first | rfl | (simp; done) | (simp [*]; done)), H', ⟨Zra _⟩, by repeat (first | exact Drawn0.refl _ | apply Drawn0.step)⟩
  case round =>
   clear H'
   try clear c1
   try clear p2
   try clear c3
   try clear c3b0
   try clear c3b1
   try clear c3b2
   obtain ⟨x5_1, rfl, HA, HK1, ⟨m1, rfl⟩⟩ := hrel
   cases gk with
   | zero => exact absurd HA.out (by simp [psalteryref18_SameBytes_raw.l0])
   | succ k1 =>
    have H := HA.out
    clear HA
    simp only [psalteryref18_SameBytes_raw.l0] at H
    by_cases c4 : x5_1 < (l0.length : Int)
    ·rw [if_pos c4] at H
     have c4b0 : decide (x5_1 < (l0.length : Int)) = true := Zn c4
     clear c4
     by_cases c5 : 0 ≤ x5_1
     rotate_left
     ·rw [if_neg c5] at H
      exact absurd H (by simp)
     rw [if_pos c5] at H
     have c5b0 : decide (0 ≤ x5_1) = true := Zn c5
     clear c5
     by_cases c6 : x5_1 < (l1.length : Int)
     rotate_left
     ·rw [if_neg c6] at H
      exact absurd H (by simp)
     rw [if_pos c6] at H
     have c6b0 : decide (x5_1 < (l1.length : Int)) = true := Zn c6
     clear c6
     by_cases c7 : (strOfNums (rd_L3 l0 x5_1)).toList = (strOfNums (rd_L3 l1 x5_1)).toList
     ·rw [if_pos c7] at H
      have c7b0 : ((strOfNums (rd_L3 l0 x5_1)).toList == (strOfNums (rd_L3 l1 x5_1)).toList) = true := beq_iff_eq.mpr c7
      have c7b1 : ((strOfNums (rd_L3 l0 x5_1)).toList != (strOfNums (rd_L3 l1 x5_1)).toList) = false := bne_eq_false_iff_eq.mpr c7
      clear c7
      have H' := Zma H
      clear H
      have p101 : 0 ≤ (x5_1 : Int) := Zg (by first | (with_reducible assumption) | assumption)
      have q101 : x5_1 < (l0.length : Int) := Zg (by first | (with_reducible assumption) | assumption)
      obtain ⟨ad101, A101_0, c101_0, e101, hx101_0, hl101_0, hi101_0⟩ := at_L3 HR0.out x5_1 p101 q101
      cases e101
      have HR101_0 := Zma hi101_0
      have HC101_0 := Zma hl101_0
      clear hi101_0 hl101_0
      replace p101 := Zja p101
      replace q101 := Zja q101
      have hcv8 := Kd.C_string (P := Try.prog) (A := A101_0) (c := c101_0) Try.underlying28 Try.underlying5 Try.underlying9 HR101_0.out
      have hcv8d := fun (m_ : Nat) => Kd.C_string (P := Try.prog) (A := A101_0) (c := c101_0) Try.underlying28 Try.underlying5 Try.underlying9 (Zaa (HR101_0.out) m_)
      have p102 : 0 ≤ (x5_1 : Int) := Zg (by first | (with_reducible assumption) | assumption)
      have q102 : x5_1 < (l1.length : Int) := Zg (by first | (with_reducible assumption) | assumption)
      obtain ⟨ad102, A102_0, c102_0, e102, hx102_0, hl102_0, hi102_0⟩ := at_L3 HR1.out x5_1 p102 q102
      cases e102
      have HR102_0 := Zma hi102_0
      have HC102_0 := Zma hl102_0
      clear hi102_0 hl102_0
      replace p102 := Zja p102
      replace q102 := Zja q102
      have hcv9 := Kd.C_string (P := Try.prog) (A := A102_0) (c := c102_0) Try.underlying28 Try.underlying5 Try.underlying9 HR102_0.out
      have hcv9d := fun (m_ : Nat) => Kd.C_string (P := Try.prog) (A := A102_0) (c := c102_0) Try.underlying28 Try.underlying5 Try.underlying9 (Zaa (HR102_0.out) m_)
      go_wp2
      repeat (go_quiet (fail); try go_wp2)
      go_roundg k1
      case measure => have := HK1.out; omega
      case rel => exact ⟨(wrap64 (x5_1 + 1)), (by first | rfl | (simp; done) | (simp [*]; done)), H', ⟨by have := HK1.out; omega⟩, by repeat (first | exact Drawn0.refl _ | apply Drawn0.step)⟩
     rw [if_neg c7] at H
     have c7b0 : ((strOfNums (rd_L3 l0 x5_1)).toList == (strOfNums (rd_L3 l1 x5_1)).toList) = false := beq_eq_false_iff_ne.mpr c7
     have c7b1 : ((strOfNums (rd_L3 l0 x5_1)).toList != (strOfNums (rd_L3 l1 x5_1)).toList) = true := bne_iff_ne.mpr c7
     obtain rfl := Zgb H
     have p101 : 0 ≤ (x5_1 : Int) := Zg (by first | (with_reducible assumption) | assumption)
     have q101 : x5_1 < (l0.length : Int) := Zg (by first | (with_reducible assumption) | assumption)
     obtain ⟨ad101, A101_0, c101_0, e101, hx101_0, hl101_0, hi101_0⟩ := at_L3 HR0.out x5_1 p101 q101
     cases e101
     have HR101_0 := Zma hi101_0
     have HC101_0 := Zma hl101_0
     clear hi101_0 hl101_0
     replace p101 := Zja p101
     replace q101 := Zja q101
     have hcv10 := Kd.C_string (P := Try.prog) (A := A101_0) (c := c101_0) Try.underlying28 Try.underlying5 Try.underlying9 HR101_0.out
     have hcv10d := fun (m_ : Nat) => Kd.C_string (P := Try.prog) (A := A101_0) (c := c101_0) Try.underlying28 Try.underlying5 Try.underlying9 (Zaa (HR101_0.out) m_)
     have p102 : 0 ≤ (x5_1 : Int) := Zg (by first | (with_reducible assumption) | assumption)
     have q102 : x5_1 < (l1.length : Int) := Zg (by first | (with_reducible assumption) | assumption)
     obtain ⟨ad102, A102_0, c102_0, e102, hx102_0, hl102_0, hi102_0⟩ := at_L3 HR1.out x5_1 p102 q102
     cases e102
     have HR102_0 := Zma hi102_0
     have HC102_0 := Zma hl102_0
     clear hi102_0 hl102_0
     replace p102 := Zja p102
     replace q102 := Zja q102
     have hcv11 := Kd.C_string (P := Try.prog) (A := A102_0) (c := c102_0) Try.underlying28 Try.underlying5 Try.underlying9 HR102_0.out
     have hcv11d := fun (m_ : Nat) => Kd.C_string (P := Try.prog) (A := A102_0) (c := c102_0) Try.underlying28 Try.underlying5 Try.underlying9 (Zaa (HR102_0.out) m_)
     go_wp2
     repeat (go_quiet (fail); try go_wp2)
     go_ret
     exact ⟨by first | rfl | (simp; done) | (simp [*]; done), by repeat (first | exact Drawn0.refl _ | apply Drawn0.step)⟩
    rw [if_neg c4] at H
    have c4b0 : decide (x5_1 < (l0.length : Int)) = false := Zna c4
    clear c4
    obtain rfl := Zgb H
    go_wp2
    repeat (go_quiet (fail); try go_wp2)
    go_ret
    exact ⟨by first | rfl | (simp; done) | (simp [*]; done), by repeat (first | exact Drawn0.refl _ | apply Drawn0.step)⟩
 rw [if_neg c3] at H
 have c3b0 : ((l0.length : Int) == (l1.length : Int)) = false := beq_eq_false_iff_ne.mpr c3
 have c3b1 : ((l0.length : Int) != (l1.length : Int)) = true := bne_iff_ne.mpr c3
 have c3b2 : (l0.length == l1.length) = false := by first | simpa using c3 | (simp at c3 ⊢; omega)
 obtain rfl := Zgb H
 go_enter Try.func59, Try.ntmps59
 go_wp2
 repeat (go_quiet (fail); try go_wp2)
 go_ret
 exact ⟨by first | rfl | (simp; done) | (simp [*]; done), by repeat (first | exact Drawn0.refl _ | apply Drawn0.step)⟩

def psalteryref18_SameBytes.f (a b : List (List Int)) : Option Bool := if a = b ∧ a.length ≤ 1000000 then some true else none
theorem psalteryref18_SameBytes.of {a b : List (List Int)} {r : Bool} (h : psalteryref18_SameBytes.f a b = some r) : ∃ k, psalteryref18_SameBytes_raw.f k a b = some r := by
  unfold psalteryref18_SameBytes.f at h
  split at h
  case isFalse => cases h
  case isTrue hs =>
    injection h with h
    subst h
    obtain ⟨rfl, hn⟩ := hs
    refine Ev.rounds ?_
    unfold psalteryref18_SameBytes_raw.f
    have go : ∀ (d j : Nat), j ≤ a.length → a.length - j = d → Ev (fun k => psalteryref18_SameBytes_raw.l0 k a a (j : Int)) true := by
      intro d
      induction d with
      | zero =>
        intro j hj hd
        refine Ev.step (f := fun _ => some true) (fun k => ?_) (Ev.now _)
        simp only [psalteryref18_SameBytes_raw.l0]
        rw [if_neg (by omega)]
      | succ d ih =>
        intro j hj hd
        have e2 : wrap64 ((j : Int) + 1) = ((j + 1 : Nat) : Int) := by unfold wrap64; omega
        refine Ev.step (fun k => ?_) (ih (j + 1) (by omega) (by omega))
        simp only [psalteryref18_SameBytes_raw.l0]
        rw [if_pos (by omega), if_pos (by omega), if_pos (by omega), if_pos trivial, e2]
    simp only [if_true]
    exact go a.length 0 (by omega) (by omega)
theorem psalteryref18_SameBytes.calls (A0 : Option Addr) (c0 : Nat) (l0 : List (List Int)) (A1 : Option Addr) (c1 : Nat) (l1 : List (List Int)) (r : Bool) (w : World) (hr0 : Kd.C (Kd.slice 5 (Kd.int .u8)) w A0 l0.length l0) (hc0 : l0.length ≤ c0) (hr1 : Kd.C (Kd.slice 5 (Kd.int .u8)) w A1 l1.length l1) (hc1 : l1.length ≤ c1) (h : psalteryref18_SameBytes.f l0 l1 = some r) :
  Calls Try.prog 59 #[.slice A0 l0.length c0, .slice A1 l1.length c1] w fun e w' => e = .returned (.bool r) ∧ Drawn0 w w' := by
  obtain ⟨k, hk⟩ := psalteryref18_SameBytes.of h
  exact psalteryref18_SameBytes_raw.calls k A0 c0 l0 A1 c1 l1 r w hr0 hc0 hr1 hc1 hk

/-! ### psalteryref18_Same: function 36 -/
end Go.Proofs.Yteoclecadpapfaa.G
