/- What a call of psaltery/psalteryref18.SameBytes, psaltery/psalteryref18.Same does, told by a plain Lean function of its arguments. Written by a program for this claim. -/
import Derived.Test.YteoclecadpapfaaG0
import Derived.Test.YteoclecadpapfaaM13
import Derived.Test.YteoclecadpapfaaM4
import Derived.Test.YteoclecadpapfaaM24
namespace Go.Proofs.Yteoclecadpapfaa.G
open Go.RowKit Go.Proofs.YteoclecadpapfaaW.PrintWords Go.Proofs.YteoclecadpapfaaW.PrintLast Go.Proofs.YteoclecadpapfaaW.PrintMore
attribute [local go_sem] max2_int min2_int max_two min_two max_three min_three max_four min_four
set_option linter.unusedVariables false
set_option linter.unusedSimpArgs false

/-! ### psalteryref18_SameBytes_raw: function 59 -/
def psalteryref18_SameBytes_raw.l0 : Nat → List (List Int) → List (List Int) → Int → Option (Bool)
 | 0, _, _, _ => none
 | k + 1, x0, x1, x5 => if x5 < (x0.length : Int) then (if 0 ≤ x5 then (if x5 < (x1.length : Int) then (if (strOfNums (rd_L3 x0 x5)).toList = (strOfNums (rd_L3 x1 x5)).toList then (psalteryref18_SameBytes_raw.l0 k x0 x1 (wrap64 (x5 + 1))) else (some false)) else (none)) else (none)) else (some true)
def psalteryref18_SameBytes_raw.f (k : Nat) (l0 : List (List Int)) (l1 : List (List Int)) : Option (Bool) := if (l0.length : Int) = (l1.length : Int) then (psalteryref18_SameBytes_raw.l0 k l0 l1 0) else (some false)
set_option maxHeartbeats 8000000 in
set_option maxRecDepth 100000 in
theorem psalteryref18_SameBytes_raw.calls (k : Nat) (A0 : Option Addr) (c0 : Nat) (l0 : List (List Int)) (A1 : Option Addr) (c1 : Nat) (l1 : List (List Int)) (r : Bool) (w : World) (hr0 : Kd.C (Kd.slice 5 (Kd.int .u8)) w A0 l0.length l0) (hc0 : l0.length ≤ c0) (hr1 : Kd.C (Kd.slice 5 (Kd.int .u8)) w A1 l1.length l1) (hc1 : l1.length ≤ c1) (h : psalteryref18_SameBytes_raw.f k l0 l1 = some r) :
  Calls Try.prog 59 #[.slice A0 l0.length c0, .slice A1 l1.length c1] w fun e w' => e = .returned (.bool r) ∧ Drawn0 w w' := by
 have HR0 := Zma hr0
 have HC0 := Zma hc0
 clear hr0 hc0
 have HR1 := Zma hr1
 have HC1 := Zma hc1
 clear hr1 hc1
 have H : (if (l0.length : Int) = (l1.length : Int) then (psalteryref18_SameBytes_raw.l0 k l0 l1 0) else (some false)) = some r := h
 clear h
 by_cases c3 : (l0.length : Int) = (l1.length : Int)
 ·rw [if_pos c3] at H
  have c3b0 : ((l0.length : Int) == (l1.length : Int)) = true := beq_iff_eq.mpr c3
  have c3b1 : ((l0.length : Int) != (l1.length : Int)) = false := bne_eq_false_iff_eq.mpr c3
  have c3b2 : (l0.length == l1.length) = true := by first | simpa using c3 | (simp at c3 ⊢; omega)
  clear c3
  have H' := Zma H
  clear H
  go_enter Try.func59, Try.ntmps59
  go_wp2
  repeat (go_quiet (fail); try go_wp2)
  go_loopg [5] k (fun kq v5 w' => ∃ (x5_1 : Int), v5 = .int .i64 x5_1 ∧ Aside0 (psalteryref18_SameBytes_raw.l0 kq l0 l1 x5_1 = some r) ∧ Aside0 (kq ≤ k) ∧ Drawn0 w w')
  case atStart => exact ⟨(0), (by first | rfl | (simp; done) | (simp [*]; done)), H', ⟨Zra _⟩, by repeat (first | exact Drawn0.refl _ | apply Drawn0.step)⟩
  case round =>
   clear H'
   try clear c1
   try clear p2
   try clear c3
   try clear c3b0
   try clear c3b1
   try clear c3b2
   obtain ⟨x5_1, rfl, HA, HK1, ⟨m1, rfl⟩⟩ := hrel
   cases gk with
   | zero => exact absurd HA.out (by simp [psalteryref18_SameBytes_raw.l0])
   | succ k1 =>
    have H := HA.out
    clear HA
    simp only [psalteryref18_SameBytes_raw.l0] at H
    by_cases c4 : x5_1 < (l0.length : Int)
    ·rw [if_pos c4] at H
     have c4b0 : decide (x5_1 < (l0.length : Int)) = true := Zn c4
     clear c4
     by_cases c5 : 0 ≤ x5_1
     rotate_left
     ·rw [if_neg c5] at H
      exact absurd H (by simp)
     rw [if_pos c5] at H
     have c5b0 : decide (0 ≤ x5_1) = true := Zn c5
     clear c5
     by_cases c6 : x5_1 < (l1.length : Int)
     rotate_left
     ·rw [if_neg c6] at H
      exact absurd H (by simp)
     rw [if_pos c6] at H
     have c6b0 : decide (x5_1 < (l1.length : Int)) = true := Zn c6
     clear c6
     by_cases c7 : (strOfNums (rd_L3 l0 x5_1)).toList = (strOfNums (rd_L3 l1 x5_1)).toList
     ·rw [if_pos c7] at H
      have c7b0 : ((strOfNums (rd_L3 l0 x5_1)).toList == (strOfNums (rd_L3 l1 x5_1)).toList) = true := beq_iff_eq.mpr c7
      have c7b1 : ((strOfNums (rd_L3 l0 x5_1)).toList != (strOfNums (rd_L3 l1 x5_1)).toList) = false := bne_eq_false_iff_eq.mpr c7
      clear c7
      have H' := Zma H
      clear H
      have p101 : 0 ≤ (x5_1 : Int) := Zg (by first | (with_reducible assumption) | assumption)
      have q101 : x5_1 < (l0.length : Int) := Zg (by first | (with_reducible assumption) | assumption)
      obtain ⟨ad101, A101_0, c101_0, e101, hx101_0, hl101_0, hi101_0⟩ := at_L3 HR0.out x5_1 p101 q101
      cases e101
      have HR101_0 := Zma hi101_0
      have HC101_0 := Zma hl101_0
      clear hi101_0 hl101_0
      replace p101 := Zja p101
      replace q101 := Zja q101
      have hcv8 := Kd.C_string (P := Try.prog) (A := A101_0) (c := c101_0) Try.underlying28 Try.underlying5 Try.underlying9 HR101_0.out
      have hcv8d := fun (m_ : Nat) => Kd.C_string (P := Try.prog) (A := A101_0) (c := c101_0) Try.underlying28 Try.underlying5 Try.underlying9 (Zaa (HR101_0.out) m_)
      have p102 : 0 ≤ (x5_1 : Int) := Zg (by first | (with_reducible assumption) | assumption)
      have q102 : x5_1 < (l1.length : Int) := Zg (by first | (with_reducible assumption) | assumption)
      obtain ⟨ad102, A102_0, c102_0, e102, hx102_0, hl102_0, hi102_0⟩ := at_L3 HR1.out x5_1 p102 q102
      cases e102
      have HR102_0 := Zma hi102_0
      have HC102_0 := Zma hl102_0
      clear hi102_0 hl102_0
      replace p102 := Zja p102
      replace q102 := Zja q102
      have hcv9 := Kd.C_string (P := Try.prog) (A := A102_0) (c := c102_0) Try.underlying28 Try.underlying5 Try.underlying9 HR102_0.out
      have hcv9d := fun (m_ : Nat) => Kd.C_string (P := Try.prog) (A := A102_0) (c := c102_0) Try.underlying28 Try.underlying5 Try.underlying9 (Zaa (HR102_0.out) m_)
      go_wp2
      repeat (go_quiet (fail); try go_wp2)
      go_roundg k1
      case measure => have := HK1.out; omega
      case rel => exact ⟨(wrap64 (x5_1 + 1)), (by first | rfl | (simp; done) | (simp [*]; done)), H', ⟨by have := HK1.out; omega⟩, by repeat (first | exact Drawn0.refl _ | apply Drawn0.step)⟩
     rw [if_neg c7] at H
     have c7b0 : ((strOfNums (rd_L3 l0 x5_1)).toList == (strOfNums (rd_L3 l1 x5_1)).toList) = false := beq_eq_false_iff_ne.mpr c7
     have c7b1 : ((strOfNums (rd_L3 l0 x5_1)).toList != (strOfNums (rd_L3 l1 x5_1)).toList) = true := bne_iff_ne.mpr c7
     obtain rfl := Zgb H
     have p101 : 0 ≤ (x5_1 : Int) := Zg (by first | (with_reducible assumption) | assumption)
     have q101 : x5_1 < (l0.length : Int) := Zg (by first | (with_reducible assumption) | assumption)
     obtain ⟨ad101, A101_0, c101_0, e101, hx101_0, hl101_0, hi101_0⟩ := at_L3 HR0.out x5_1 p101 q101
     cases e101
     have HR101_0 := Zma hi101_0
     have HC101_0 := Zma hl101_0
     clear hi101_0 hl101_0
     replace p101 := Zja p101
     replace q101 := Zja q101
     have hcv10 := Kd.C_string (P := Try.prog) (A := A101_0) (c := c101_0) Try.underlying28 Try.underlying5 Try.underlying9 HR101_0.out
     have hcv10d := fun (m_ : Nat) => Kd.C_string (P := Try.prog) (A := A101_0) (c := c101_0) Try.underlying28 Try.underlying5 Try.underlying9 (Zaa (HR101_0.out) m_)
     have p102 : 0 ≤ (x5_1 : Int) := Zg (by first | (with_reducible assumption) | assumption)
     have q102 : x5_1 < (l1.length : Int) := Zg (by first | (with_reducible assumption) | assumption)
     obtain ⟨ad102, A102_0, c102_0, e102, hx102_0, hl102_0, hi102_0⟩ := at_L3 HR1.out x5_1 p102 q102
     cases e102
     have HR102_0 := Zma hi102_0
     have HC102_0 := Zma hl102_0
     clear hi102_0 hl102_0
     replace p102 := Zja p102
     replace q102 := Zja q102
     have hcv11 := Kd.C_string (P := Try.prog) (A := A102_0) (c := c102_0) Try.underlying28 Try.underlying5 Try.underlying9 HR102_0.out
     have hcv11d := fun (m_ : Nat) => Kd.C_string (P := Try.prog) (A := A102_0) (c := c102_0) Try.underlying28 Try.underlying5 Try.underlying9 (Zaa (HR102_0.out) m_)
     go_wp2
     repeat (go_quiet (fail); try go_wp2)
     go_ret
     exact ⟨by first | rfl | (simp; done) | (simp [*]; done), by repeat (first | exact Drawn0.refl _ | apply Drawn0.step)⟩
    rw [if_neg c4] at H
    have c4b0 : decide (x5_1 < (l0.length : Int)) = false := Zna c4
    clear c4
    obtain rfl := Zgb H
    go_wp2
    repeat (go_quiet (fail); try go_wp2)
    go_ret
    exact ⟨by first | rfl | (simp; done) | (simp [*]; done), by repeat (first | exact Drawn0.refl _ | apply Drawn0.step)⟩
 rw [if_neg c3] at H
 have c3b0 : ((l0.length : Int) == (l1.length : Int)) = false := beq_eq_false_iff_ne.mpr c3
 have c3b1 : ((l0.length : Int) != (l1.length : Int)) = true := bne_iff_ne.mpr c3
 have c3b2 : (l0.length == l1.length) = false := by first | simpa using c3 | (simp at c3 ⊢; omega)
 obtain rfl := Zgb H
 go_enter Try.func59, Try.ntmps59
 go_wp2
 repeat (go_quiet (fail); try go_wp2)
 go_ret
 exact ⟨by first | rfl | (simp; done) | (simp [*]; done), by repeat (first | exact Drawn0.refl _ | apply Drawn0.step)⟩

def psalteryref18_SameBytes.f (a b : List (List Int)) : Option Bool := if a = b ∧ a.length ≤ 1000000 then some true else none
theorem psalteryref18_SameBytes.of {a b : List (List Int)} {r : Bool} (h : psalteryref18_SameBytes.f a b = some r) : ∃ k, psalteryref18_SameBytes_raw.f k a b = some r := by
  unfold psalteryref18_SameBytes.f at h
  split at h
  case isFalse => cases h
  case isTrue hs =>
    injection h with h
    subst h
    obtain ⟨rfl, hn⟩ := hs
    refine Ev.rounds ?_
    unfold psalteryref18_SameBytes_raw.f
    have go : ∀ (d j : Nat), j ≤ a.length → a.length - j = d → Ev (fun k => psalteryref18_SameBytes_raw.l0 k a a (j : Int)) true := by
      intro d
      induction d with
      | zero =>
        intro j hj hd
        refine Ev.step (f := fun _ => some true) (fun k => ?_) (Ev.now _)
        simp only [psalteryref18_SameBytes_raw.l0]
        rw [if_neg (by omega)]
      | succ d ih =>
        intro j hj hd
        have e2 : wrap64 ((j : Int) + 1) = ((j + 1 : Nat) : Int) := by unfold wrap64; omega
        refine Ev.step (fun k => ?_) (ih (j + 1) (by omega) (by omega))
        simp only [psalteryref18_SameBytes_raw.l0]
        rw [if_pos (by omega), if_pos (by omega), if_pos (by omega), if_pos trivial, e2]
    simp only [if_true]
    exact go a.length 0 (by omega) (by omega)
theorem psalteryref18_SameBytes.calls (A0 : Option Addr) (c0 : Nat) (l0 : List (List Int)) (A1 : Option Addr) (c1 : Nat) (l1 : List (List Int)) (r : Bool) (w : World) (hr0 : Kd.C (Kd.slice 5 (Kd.int .u8)) w A0 l0.length l0) (hc0 : l0.length ≤ c0) (hr1 : Kd.C (Kd.slice 5 (Kd.int .u8)) w A1 l1.length l1) (hc1 : l1.length ≤ c1) (h : psalteryref18_SameBytes.f l0 l1 = some r) :
  Calls Try.prog 59 #[.slice A0 l0.length c0, .slice A1 l1.length c1] w fun e w' => e = .returned (.bool r) ∧ Drawn0 w w' := by
  obtain ⟨k, hk⟩ := psalteryref18_SameBytes.of h
  exact psalteryref18_SameBytes_raw.calls k A0 c0 l0 A1 c1 l1 r w hr0 hc0 hr1 hc1 hk

/-! ### psalteryref18_Same: function 36 -/
def psalteryref18_Same.f (a0_0 : Int) (a0_1 : Int) (a0_2 : Bool) (a0_3 : Bool) (a0_4 : Bool) (a0_5 : Bool) (l0_6 : List (List Int)) (a1_0 : Int) (a1_1 : Int) (a1_2 : Bool) (a1_3 : Bool) (a1_4 : Bool) (a1_5 : Bool) (l1_6 : List (List Int)) : Option (Bool) := if a0_0 = a1_0 then (if a0_1 = a1_1 then (if (a0_2 == a1_2) = true then (if (a0_3 == a1_3) = true then (if (a0_4 == a1_4) = true then (if (a0_5 == a1_5) = true then ((psalteryref18_SameBytes.f l0_6 l1_6).bind fun t103 => (some t103)) else (some false)) else (some false)) else (some false)) else (some false)) else (some false)) else (some false)
set_option maxHeartbeats 8000000 in
set_option maxRecDepth 100000 in
theorem psalteryref18_Same.calls (a0_0 : Int) (a0_1 : Int) (a0_2 : Bool) (a0_3 : Bool) (a0_4 : Bool) (a0_5 : Bool) (A0_6 : Option Addr) (c0_6 : Nat) (l0_6 : List (List Int)) (a1_0 : Int) (a1_1 : Int) (a1_2 : Bool) (a1_3 : Bool) (a1_4 : Bool) (a1_5 : Bool) (A1_6 : Option Addr) (c1_6 : Nat) (l1_6 : List (List Int)) (r : Bool) (w : World) (hr0_6 : Kd.C (Kd.slice 5 (Kd.int .u8)) w A0_6 l0_6.length l0_6) (hc0_6 : l0_6.length ≤ c0_6) (hr1_6 : Kd.C (Kd.slice 5 (Kd.int .u8)) w A1_6 l1_6.length l1_6) (hc1_6 : l1_6.length ≤ c1_6) (h : psalteryref18_Same.f a0_0 a0_1 a0_2 a0_3 a0_4 a0_5 l0_6 a1_0 a1_1 a1_2 a1_3 a1_4 a1_5 l1_6 = some r) :
  Calls Try.prog 36 #[.agg #[.int .i64 a0_0, .int .i64 a0_1, .bool a0_2, .bool a0_3, .bool a0_4, .bool a0_5, .slice A0_6 l0_6.length c0_6], .agg #[.int .i64 a1_0, .int .i64 a1_1, .bool a1_2, .bool a1_3, .bool a1_4, .bool a1_5, .slice A1_6 l1_6.length c1_6]] w fun e w' => e = .returned (.bool r) ∧ Below w.heap.size w w' := by
 have hu50 := Try.underlying50
 have HR0_6 := Zma hr0_6
 have HC0_6 := Zma hc0_6
 clear hr0_6 hc0_6
 have HR1_6 := Zma hr1_6
 have HC1_6 := Zma hc1_6
 clear hr1_6 hc1_6
 have HB := Zma (Below.refl w.heap.size w)
 have H : (if a0_0 = a1_0 then (if a0_1 = a1_1 then (if (a0_2 == a1_2) = true then (if (a0_3 == a1_3) = true then (if (a0_4 == a1_4) = true then (if (a0_5 == a1_5) = true then ((psalteryref18_SameBytes.f l0_6 l1_6).bind fun t103 => (some t103)) else (some false)) else (some false)) else (some false)) else (some false)) else (some false)) else (some false)) = some r := h
 clear h
 by_cases c3 : a0_0 = a1_0
 ·rw [if_pos c3] at H
  have c3b0 : (a0_0 == a1_0) = true := beq_iff_eq.mpr c3
  have c3b1 : (a0_0 != a1_0) = false := bne_eq_false_iff_eq.mpr c3
  clear c3
  by_cases c4 : a0_1 = a1_1
  ·rw [if_pos c4] at H
   have c4b0 : (a0_1 == a1_1) = true := beq_iff_eq.mpr c4
   have c4b1 : (a0_1 != a1_1) = false := bne_eq_false_iff_eq.mpr c4
   clear c4
   by_cases c5 : (a0_2 == a1_2) = true
   ·rw [if_pos c5] at H
    have c5b0 : (a0_2 == a1_2) = true := c5
    (try (have c5b1 : decide (a0_2 = a1_2) = true := by simpa using c5))
    (try (have c5b2 : (a0_2 == a1_2) = true := by simpa using c5))
    clear c5
    by_cases c6 : (a0_3 == a1_3) = true
    ·rw [if_pos c6] at H
     have c6b0 : (a0_3 == a1_3) = true := c6
     (try (have c6b1 : decide (a0_3 = a1_3) = true := by simpa using c6))
     (try (have c6b2 : (a0_3 == a1_3) = true := by simpa using c6))
     clear c6
     by_cases c7 : (a0_4 == a1_4) = true
     ·rw [if_pos c7] at H
      have c7b0 : (a0_4 == a1_4) = true := c7
      (try (have c7b1 : decide (a0_4 = a1_4) = true := by simpa using c7))
      (try (have c7b2 : (a0_4 == a1_4) = true := by simpa using c7))
      clear c7
      by_cases c8 : (a0_5 == a1_5) = true
      ·rw [if_pos c8] at H
       have c8b0 : (a0_5 == a1_5) = true := c8
       (try (have c8b1 : decide (a0_5 = a1_5) = true := by simpa using c8))
       (try (have c8b2 : (a0_5 == a1_5) = true := by simpa using c8))
       clear c8
       replace H := Option.bind_eq_some_iff.mp H
       obtain ⟨t103, A90, H⟩ := H
       replace H : (some t103) = some r := H
       have A9 := Zma A90
       clear A90
       obtain rfl := Zgb H
       go_enter Try.func36, Try.ntmps36
       go_wp2_with (first | ((with_reducible refine gate_dst (N := 2) rfl ?_); refine box_event ?hg (N := 2) ?hd (cs := #[.int .i64 a0_0, .int .i64 a0_1, .bool a0_2, .bool a0_3, .bool a0_4, .bool a0_5, .slice A0_6 l0_6.length c0_6]) (t := 50) ?hr ?_; (case hd => rfl); (case hg => rfl); (case hr => first | (go_simp; done) | (go_simp; rfl)); intro gb101 hg w10 hbox hb; have n0_ := Zma (Zoa bq hb); have n1_ := Zma (hbox); have n2_ := Zma ((by rw [hg]; exact (Zfa bq) : w.heap.size ≤ gb101)); have n3_ := Zma ((by rw [hg]; exact (Zfa bq) : w.heap.size ≤ gb101)); clear HB; have HB := n0_; have BK101 := n1_; have GW101 := n2_; have GE101 := n3_; clear n0_ n1_ n2_ n3_ hb hbox hg) | ((with_reducible refine gate_dst (N := 3) rfl ?_); refine box_event ?hg (N := 3) ?hd (cs := #[.int .i64 a1_0, .int .i64 a1_1, .bool a1_2, .bool a1_3, .bool a1_4, .bool a1_5, .slice A1_6 l1_6.length c1_6]) (t := 50) ?hr ?_; (case hd => rfl); (case hg => rfl); (case hr => first | (go_simp; done) | (go_simp; rfl)); intro gb102 hg w11 hbox hb; have n0_ := Zma (Zab (g := gb101) (o := .cells #[.int .i64 a0_0, .int .i64 a0_1, .bool a0_2, .bool a0_3, .bool a0_4, .bool a0_5, .slice A0_6 l0_6.length c0_6] 50 (0, 0)) (kq BK101.out) hb); have n1_ := Zma (Zoa bq hb); have n2_ := Zma (hbox); have n3_ := Zma ((by rw [hg]; exact (Zfa bq) : w.heap.size ≤ gb102)); have n4_ := Zma ((by rw [hg]; exact (Zfa bq) : w.heap.size ≤ gb102)); have n5_ := Zma ((by rw [hg]; exact Zka (blk_lt (g := gb101) (o := .cells #[.int .i64 a0_0, .int .i64 a0_1, .bool a0_2, .bool a0_3, .bool a0_4, .bool a0_5, .slice A0_6 l0_6.length c0_6] 50 (0, 0)) (kq BK101.out)) : gb101 ≠ gb102)); have n6_ := Zma ((by rw [hg]; exact Nat.ne_of_gt (blk_lt (g := gb101) (o := .cells #[.int .i64 a0_0, .int .i64 a0_1, .bool a0_2, .bool a0_3, .bool a0_4, .bool a0_5, .slice A0_6 l0_6.length c0_6] 50 (0, 0)) (kq BK101.out)) : gb102 ≠ gb101)); clear BK101 HB; have BK101 := n0_; have HB := n1_; have BK102 := n2_; have GW102 := n3_; have GE102 := n4_; have NB101_102 := n5_; have NB102_101 := n6_; clear n0_ n1_ n2_ n3_ n4_ n5_ n6_ hb hbox hg; have hnb12 := NB101_102.out; have hnc12 := NB102_101.out; obtain ⟨hcz13_0, hcz13_1, hcz13_2, hcz13_3, hcz13_4, hcz13_5, hcz13_6, hfz13_0, hfz13_1, hfz13_2, hfz13_3, hfz13_4, hfz13_5, hfz13_6⟩ := blk7 BK101.out; obtain ⟨hcz14_0, hcz14_1, hcz14_2, hcz14_3, hcz14_4, hcz14_5, hcz14_6, hfz14_0, hfz14_1, hfz14_2, hfz14_3, hfz14_4, hfz14_5, hfz14_6⟩ := blk7 BK102.out) | (go_at_call 59; (with_reducible refine (psalteryref18_SameBytes.calls _ _ l0_6 _ _ l1_6 t103 _ ?side1 ?side2 ?side3 ?side4 A9.out).mono ?_); (case side1 => exact cq ((Kd.C_below HR0_6.out HB.out))); (case side2 => exact HC0_6.out); (case side3 => exact cq ((Kd.C_below HR1_6.out HB.out))); (case side4 => exact HC1_6.out); rintro e w' ⟨rfl, ⟨nd, rfl⟩⟩))
       go_ret
       exact ⟨by first | rfl | (simp [errW_none, errW_some] <;> rfl) | (simp [*, errW_none, errW_some] <;> rfl), bq⟩
      rw [if_neg c8] at H
      have c8b0 : (a0_5 == a1_5) = false := by simpa using c8
      (try (have c8b1 : decide (a0_5 = a1_5) = false := by simpa using c8))
      (try (have c8b2 : (a0_5 == a1_5) = false := by simpa using c8))
      (try (have c8b3 : ¬ (a0_5 = a1_5) := by simpa using c8))
      clear c8
      obtain rfl := Zgb H
      go_enter Try.func36, Try.ntmps36
      go_wp2_with (first | ((with_reducible refine gate_dst (N := 2) rfl ?_); refine box_event ?hg (N := 2) ?hd (cs := #[.int .i64 a0_0, .int .i64 a0_1, .bool a0_2, .bool a0_3, .bool a0_4, .bool a0_5, .slice A0_6 l0_6.length c0_6]) (t := 50) ?hr ?_; (case hd => rfl); (case hg => rfl); (case hr => first | (go_simp; done) | (go_simp; rfl)); intro gb101 hg w15 hbox hb; have n0_ := Zma (Zoa bq hb); have n1_ := Zma (hbox); have n2_ := Zma ((by rw [hg]; exact (Zfa bq) : w.heap.size ≤ gb101)); have n3_ := Zma ((by rw [hg]; exact (Zfa bq) : w.heap.size ≤ gb101)); clear HB; have HB := n0_; have BK101 := n1_; have GW101 := n2_; have GE101 := n3_; clear n0_ n1_ n2_ n3_ hb hbox hg) | ((with_reducible refine gate_dst (N := 3) rfl ?_); refine box_event ?hg (N := 3) ?hd (cs := #[.int .i64 a1_0, .int .i64 a1_1, .bool a1_2, .bool a1_3, .bool a1_4, .bool a1_5, .slice A1_6 l1_6.length c1_6]) (t := 50) ?hr ?_; (case hd => rfl); (case hg => rfl); (case hr => first | (go_simp; done) | (go_simp; rfl)); intro gb102 hg w16 hbox hb; have n0_ := Zma (Zab (g := gb101) (o := .cells #[.int .i64 a0_0, .int .i64 a0_1, .bool a0_2, .bool a0_3, .bool a0_4, .bool a0_5, .slice A0_6 l0_6.length c0_6] 50 (0, 0)) (kq BK101.out) hb); have n1_ := Zma (Zoa bq hb); have n2_ := Zma (hbox); have n3_ := Zma ((by rw [hg]; exact (Zfa bq) : w.heap.size ≤ gb102)); have n4_ := Zma ((by rw [hg]; exact (Zfa bq) : w.heap.size ≤ gb102)); have n5_ := Zma ((by rw [hg]; exact Zka (blk_lt (g := gb101) (o := .cells #[.int .i64 a0_0, .int .i64 a0_1, .bool a0_2, .bool a0_3, .bool a0_4, .bool a0_5, .slice A0_6 l0_6.length c0_6] 50 (0, 0)) (kq BK101.out)) : gb101 ≠ gb102)); have n6_ := Zma ((by rw [hg]; exact Nat.ne_of_gt (blk_lt (g := gb101) (o := .cells #[.int .i64 a0_0, .int .i64 a0_1, .bool a0_2, .bool a0_3, .bool a0_4, .bool a0_5, .slice A0_6 l0_6.length c0_6] 50 (0, 0)) (kq BK101.out)) : gb102 ≠ gb101)); clear BK101 HB; have BK101 := n0_; have HB := n1_; have BK102 := n2_; have GW102 := n3_; have GE102 := n4_; have NB101_102 := n5_; have NB102_101 := n6_; clear n0_ n1_ n2_ n3_ n4_ n5_ n6_ hb hbox hg; have hnb17 := NB101_102.out; have hnc17 := NB102_101.out; obtain ⟨hcz18_0, hcz18_1, hcz18_2, hcz18_3, hcz18_4, hcz18_5, hcz18_6, hfz18_0, hfz18_1, hfz18_2, hfz18_3, hfz18_4, hfz18_5, hfz18_6⟩ := blk7 BK101.out; obtain ⟨hcz19_0, hcz19_1, hcz19_2, hcz19_3, hcz19_4, hcz19_5, hcz19_6, hfz19_0, hfz19_1, hfz19_2, hfz19_3, hfz19_4, hfz19_5, hfz19_6⟩ := blk7 BK102.out))
      go_ret
      exact ⟨by first | rfl | (simp [errW_none, errW_some] <;> rfl) | (simp [*, errW_none, errW_some] <;> rfl), bq⟩
     rw [if_neg c7] at H
     have c7b0 : (a0_4 == a1_4) = false := by simpa using c7
     (try (have c7b1 : decide (a0_4 = a1_4) = false := by simpa using c7))
     (try (have c7b2 : (a0_4 == a1_4) = false := by simpa using c7))
     (try (have c7b3 : ¬ (a0_4 = a1_4) := by simpa using c7))
     clear c7
     obtain rfl := Zgb H
     go_enter Try.func36, Try.ntmps36
     go_wp2_with (first | ((with_reducible refine gate_dst (N := 2) rfl ?_); refine box_event ?hg (N := 2) ?hd (cs := #[.int .i64 a0_0, .int .i64 a0_1, .bool a0_2, .bool a0_3, .bool a0_4, .bool a0_5, .slice A0_6 l0_6.length c0_6]) (t := 50) ?hr ?_; (case hd => rfl); (case hg => rfl); (case hr => first | (go_simp; done) | (go_simp; rfl)); intro gb101 hg w20 hbox hb; have n0_ := Zma (Zoa bq hb); have n1_ := Zma (hbox); have n2_ := Zma ((by rw [hg]; exact (Zfa bq) : w.heap.size ≤ gb101)); have n3_ := Zma ((by rw [hg]; exact (Zfa bq) : w.heap.size ≤ gb101)); clear HB; have HB := n0_; have BK101 := n1_; have GW101 := n2_; have GE101 := n3_; clear n0_ n1_ n2_ n3_ hb hbox hg) | ((with_reducible refine gate_dst (N := 3) rfl ?_); refine box_event ?hg (N := 3) ?hd (cs := #[.int .i64 a1_0, .int .i64 a1_1, .bool a1_2, .bool a1_3, .bool a1_4, .bool a1_5, .slice A1_6 l1_6.length c1_6]) (t := 50) ?hr ?_; (case hd => rfl); (case hg => rfl); (case hr => first | (go_simp; done) | (go_simp; rfl)); intro gb102 hg w21 hbox hb; have n0_ := Zma (Zab (g := gb101) (o := .cells #[.int .i64 a0_0, .int .i64 a0_1, .bool a0_2, .bool a0_3, .bool a0_4, .bool a0_5, .slice A0_6 l0_6.length c0_6] 50 (0, 0)) (kq BK101.out) hb); have n1_ := Zma (Zoa bq hb); have n2_ := Zma (hbox); have n3_ := Zma ((by rw [hg]; exact (Zfa bq) : w.heap.size ≤ gb102)); have n4_ := Zma ((by rw [hg]; exact (Zfa bq) : w.heap.size ≤ gb102)); have n5_ := Zma ((by rw [hg]; exact Zka (blk_lt (g := gb101) (o := .cells #[.int .i64 a0_0, .int .i64 a0_1, .bool a0_2, .bool a0_3, .bool a0_4, .bool a0_5, .slice A0_6 l0_6.length c0_6] 50 (0, 0)) (kq BK101.out)) : gb101 ≠ gb102)); have n6_ := Zma ((by rw [hg]; exact Nat.ne_of_gt (blk_lt (g := gb101) (o := .cells #[.int .i64 a0_0, .int .i64 a0_1, .bool a0_2, .bool a0_3, .bool a0_4, .bool a0_5, .slice A0_6 l0_6.length c0_6] 50 (0, 0)) (kq BK101.out)) : gb102 ≠ gb101)); clear BK101 HB; have BK101 := n0_; have HB := n1_; have BK102 := n2_; have GW102 := n3_; have GE102 := n4_; have NB101_102 := n5_; have NB102_101 := n6_; clear n0_ n1_ n2_ n3_ n4_ n5_ n6_ hb hbox hg; have hnb22 := NB101_102.out; have hnc22 := NB102_101.out; obtain ⟨hcz23_0, hcz23_1, hcz23_2, hcz23_3, hcz23_4, hcz23_5, hcz23_6, hfz23_0, hfz23_1, hfz23_2, hfz23_3, hfz23_4, hfz23_5, hfz23_6⟩ := blk7 BK101.out; obtain ⟨hcz24_0, hcz24_1, hcz24_2, hcz24_3, hcz24_4, hcz24_5, hcz24_6, hfz24_0, hfz24_1, hfz24_2, hfz24_3, hfz24_4, hfz24_5, hfz24_6⟩ := blk7 BK102.out))
     go_ret
     exact ⟨by first | rfl | (simp [errW_none, errW_some] <;> rfl) | (simp [*, errW_none, errW_some] <;> rfl), bq⟩
    rw [if_neg c6] at H
    have c6b0 : (a0_3 == a1_3) = false := by simpa using c6
    (try (have c6b1 : decide (a0_3 = a1_3) = false := by simpa using c6))
    (try (have c6b2 : (a0_3 == a1_3) = false := by simpa using c6))
    (try (have c6b3 : ¬ (a0_3 = a1_3) := by simpa using c6))
    clear c6
    obtain rfl := Zgb H
    go_enter Try.func36, Try.ntmps36
    go_wp2_with (first | ((with_reducible refine gate_dst (N := 2) rfl ?_); refine box_event ?hg (N := 2) ?hd (cs := #[.int .i64 a0_0, .int .i64 a0_1, .bool a0_2, .bool a0_3, .bool a0_4, .bool a0_5, .slice A0_6 l0_6.length c0_6]) (t := 50) ?hr ?_; (case hd => rfl); (case hg => rfl); (case hr => first | (go_simp; done) | (go_simp; rfl)); intro gb101 hg w25 hbox hb; have n0_ := Zma (Zoa bq hb); have n1_ := Zma (hbox); have n2_ := Zma ((by rw [hg]; exact (Zfa bq) : w.heap.size ≤ gb101)); have n3_ := Zma ((by rw [hg]; exact (Zfa bq) : w.heap.size ≤ gb101)); clear HB; have HB := n0_; have BK101 := n1_; have GW101 := n2_; have GE101 := n3_; clear n0_ n1_ n2_ n3_ hb hbox hg) | ((with_reducible refine gate_dst (N := 3) rfl ?_); refine box_event ?hg (N := 3) ?hd (cs := #[.int .i64 a1_0, .int .i64 a1_1, .bool a1_2, .bool a1_3, .bool a1_4, .bool a1_5, .slice A1_6 l1_6.length c1_6]) (t := 50) ?hr ?_; (case hd => rfl); (case hg => rfl); (case hr => first | (go_simp; done) | (go_simp; rfl)); intro gb102 hg w26 hbox hb; have n0_ := Zma (Zab (g := gb101) (o := .cells #[.int .i64 a0_0, .int .i64 a0_1, .bool a0_2, .bool a0_3, .bool a0_4, .bool a0_5, .slice A0_6 l0_6.length c0_6] 50 (0, 0)) (kq BK101.out) hb); have n1_ := Zma (Zoa bq hb); have n2_ := Zma (hbox); have n3_ := Zma ((by rw [hg]; exact (Zfa bq) : w.heap.size ≤ gb102)); have n4_ := Zma ((by rw [hg]; exact (Zfa bq) : w.heap.size ≤ gb102)); have n5_ := Zma ((by rw [hg]; exact Zka (blk_lt (g := gb101) (o := .cells #[.int .i64 a0_0, .int .i64 a0_1, .bool a0_2, .bool a0_3, .bool a0_4, .bool a0_5, .slice A0_6 l0_6.length c0_6] 50 (0, 0)) (kq BK101.out)) : gb101 ≠ gb102)); have n6_ := Zma ((by rw [hg]; exact Nat.ne_of_gt (blk_lt (g := gb101) (o := .cells #[.int .i64 a0_0, .int .i64 a0_1, .bool a0_2, .bool a0_3, .bool a0_4, .bool a0_5, .slice A0_6 l0_6.length c0_6] 50 (0, 0)) (kq BK101.out)) : gb102 ≠ gb101)); clear BK101 HB; have BK101 := n0_; have HB := n1_; have BK102 := n2_; have GW102 := n3_; have GE102 := n4_; have NB101_102 := n5_; have NB102_101 := n6_; clear n0_ n1_ n2_ n3_ n4_ n5_ n6_ hb hbox hg; have hnb27 := NB101_102.out; have hnc27 := NB102_101.out; obtain ⟨hcz28_0, hcz28_1, hcz28_2, hcz28_3, hcz28_4, hcz28_5, hcz28_6, hfz28_0, hfz28_1, hfz28_2, hfz28_3, hfz28_4, hfz28_5, hfz28_6⟩ := blk7 BK101.out; obtain ⟨hcz29_0, hcz29_1, hcz29_2, hcz29_3, hcz29_4, hcz29_5, hcz29_6, hfz29_0, hfz29_1, hfz29_2, hfz29_3, hfz29_4, hfz29_5, hfz29_6⟩ := blk7 BK102.out))
    go_ret
    exact ⟨by first | rfl | (simp [errW_none, errW_some] <;> rfl) | (simp [*, errW_none, errW_some] <;> rfl), bq⟩
   rw [if_neg c5] at H
   have c5b0 : (a0_2 == a1_2) = false := by simpa using c5
   (try (have c5b1 : decide (a0_2 = a1_2) = false := by simpa using c5))
   (try (have c5b2 : (a0_2 == a1_2) = false := by simpa using c5))
   (try (have c5b3 : ¬ (a0_2 = a1_2) := by simpa using c5))
   clear c5
   obtain rfl := Zgb H
   go_enter Try.func36, Try.ntmps36
   go_wp2_with (first | ((with_reducible refine gate_dst (N := 2) rfl ?_); refine box_event ?hg (N := 2) ?hd (cs := #[.int .i64 a0_0, .int .i64 a0_1, .bool a0_2, .bool a0_3, .bool a0_4, .bool a0_5, .slice A0_6 l0_6.length c0_6]) (t := 50) ?hr ?_; (case hd => rfl); (case hg => rfl); (case hr => first | (go_simp; done) | (go_simp; rfl)); intro gb101 hg w30 hbox hb; have n0_ := Zma (Zoa bq hb); have n1_ := Zma (hbox); have n2_ := Zma ((by rw [hg]; exact (Zfa bq) : w.heap.size ≤ gb101)); have n3_ := Zma ((by rw [hg]; exact (Zfa bq) : w.heap.size ≤ gb101)); clear HB; have HB := n0_; have BK101 := n1_; have GW101 := n2_; have GE101 := n3_; clear n0_ n1_ n2_ n3_ hb hbox hg) | ((with_reducible refine gate_dst (N := 3) rfl ?_); refine box_event ?hg (N := 3) ?hd (cs := #[.int .i64 a1_0, .int .i64 a1_1, .bool a1_2, .bool a1_3, .bool a1_4, .bool a1_5, .slice A1_6 l1_6.length c1_6]) (t := 50) ?hr ?_; (case hd => rfl); (case hg => rfl); (case hr => first | (go_simp; done) | (go_simp; rfl)); intro gb102 hg w31 hbox hb; have n0_ := Zma (Zab (g := gb101) (o := .cells #[.int .i64 a0_0, .int .i64 a0_1, .bool a0_2, .bool a0_3, .bool a0_4, .bool a0_5, .slice A0_6 l0_6.length c0_6] 50 (0, 0)) (kq BK101.out) hb); have n1_ := Zma (Zoa bq hb); have n2_ := Zma (hbox); have n3_ := Zma ((by rw [hg]; exact (Zfa bq) : w.heap.size ≤ gb102)); have n4_ := Zma ((by rw [hg]; exact (Zfa bq) : w.heap.size ≤ gb102)); have n5_ := Zma ((by rw [hg]; exact Zka (blk_lt (g := gb101) (o := .cells #[.int .i64 a0_0, .int .i64 a0_1, .bool a0_2, .bool a0_3, .bool a0_4, .bool a0_5, .slice A0_6 l0_6.length c0_6] 50 (0, 0)) (kq BK101.out)) : gb101 ≠ gb102)); have n6_ := Zma ((by rw [hg]; exact Nat.ne_of_gt (blk_lt (g := gb101) (o := .cells #[.int .i64 a0_0, .int .i64 a0_1, .bool a0_2, .bool a0_3, .bool a0_4, .bool a0_5, .slice A0_6 l0_6.length c0_6] 50 (0, 0)) (kq BK101.out)) : gb102 ≠ gb101)); clear BK101 HB; have BK101 := n0_; have HB := n1_; have BK102 := n2_; have GW102 := n3_; have GE102 := n4_; have NB101_102 := n5_; have NB102_101 := n6_; clear n0_ n1_ n2_ n3_ n4_ n5_ n6_ hb hbox hg; have hnb32 := NB101_102.out; have hnc32 := NB102_101.out; obtain ⟨hcz33_0, hcz33_1, hcz33_2, hcz33_3, hcz33_4, hcz33_5, hcz33_6, hfz33_0, hfz33_1, hfz33_2, hfz33_3, hfz33_4, hfz33_5, hfz33_6⟩ := blk7 BK101.out; obtain ⟨hcz34_0, hcz34_1, hcz34_2, hcz34_3, hcz34_4, hcz34_5, hcz34_6, hfz34_0, hfz34_1, hfz34_2, hfz34_3, hfz34_4, hfz34_5, hfz34_6⟩ := blk7 BK102.out))
   go_ret
   exact ⟨by first | rfl | (simp [errW_none, errW_some] <;> rfl) | (simp [*, errW_none, errW_some] <;> rfl), bq⟩
  rw [if_neg c4] at H
  have c4b0 : (a0_1 == a1_1) = false := beq_eq_false_iff_ne.mpr c4
  have c4b1 : (a0_1 != a1_1) = true := bne_iff_ne.mpr c4
  obtain rfl := Zgb H
  go_enter Try.func36, Try.ntmps36
  go_wp2_with (first | ((with_reducible refine gate_dst (N := 2) rfl ?_); refine box_event ?hg (N := 2) ?hd (cs := #[.int .i64 a0_0, .int .i64 a0_1, .bool a0_2, .bool a0_3, .bool a0_4, .bool a0_5, .slice A0_6 l0_6.length c0_6]) (t := 50) ?hr ?_; (case hd => rfl); (case hg => rfl); (case hr => first | (go_simp; done) | (go_simp; rfl)); intro gb101 hg w35 hbox hb; have n0_ := Zma (Zoa bq hb); have n1_ := Zma (hbox); have n2_ := Zma ((by rw [hg]; exact (Zfa bq) : w.heap.size ≤ gb101)); have n3_ := Zma ((by rw [hg]; exact (Zfa bq) : w.heap.size ≤ gb101)); clear HB; have HB := n0_; have BK101 := n1_; have GW101 := n2_; have GE101 := n3_; clear n0_ n1_ n2_ n3_ hb hbox hg) | ((with_reducible refine gate_dst (N := 3) rfl ?_); refine box_event ?hg (N := 3) ?hd (cs := #[.int .i64 a1_0, .int .i64 a1_1, .bool a1_2, .bool a1_3, .bool a1_4, .bool a1_5, .slice A1_6 l1_6.length c1_6]) (t := 50) ?hr ?_; (case hd => rfl); (case hg => rfl); (case hr => first | (go_simp; done) | (go_simp; rfl)); intro gb102 hg w36 hbox hb; have n0_ := Zma (Zab (g := gb101) (o := .cells #[.int .i64 a0_0, .int .i64 a0_1, .bool a0_2, .bool a0_3, .bool a0_4, .bool a0_5, .slice A0_6 l0_6.length c0_6] 50 (0, 0)) (kq BK101.out) hb); have n1_ := Zma (Zoa bq hb); have n2_ := Zma (hbox); have n3_ := Zma ((by rw [hg]; exact (Zfa bq) : w.heap.size ≤ gb102)); have n4_ := Zma ((by rw [hg]; exact (Zfa bq) : w.heap.size ≤ gb102)); have n5_ := Zma ((by rw [hg]; exact Zka (blk_lt (g := gb101) (o := .cells #[.int .i64 a0_0, .int .i64 a0_1, .bool a0_2, .bool a0_3, .bool a0_4, .bool a0_5, .slice A0_6 l0_6.length c0_6] 50 (0, 0)) (kq BK101.out)) : gb101 ≠ gb102)); have n6_ := Zma ((by rw [hg]; exact Nat.ne_of_gt (blk_lt (g := gb101) (o := .cells #[.int .i64 a0_0, .int .i64 a0_1, .bool a0_2, .bool a0_3, .bool a0_4, .bool a0_5, .slice A0_6 l0_6.length c0_6] 50 (0, 0)) (kq BK101.out)) : gb102 ≠ gb101)); clear BK101 HB; have BK101 := n0_; have HB := n1_; have BK102 := n2_; have GW102 := n3_; have GE102 := n4_; have NB101_102 := n5_; have NB102_101 := n6_; clear n0_ n1_ n2_ n3_ n4_ n5_ n6_ hb hbox hg; have hnb37 := NB101_102.out; have hnc37 := NB102_101.out; obtain ⟨hcz38_0, hcz38_1, hcz38_2, hcz38_3, hcz38_4, hcz38_5, hcz38_6, hfz38_0, hfz38_1, hfz38_2, hfz38_3, hfz38_4, hfz38_5, hfz38_6⟩ := blk7 BK101.out; obtain ⟨hcz39_0, hcz39_1, hcz39_2, hcz39_3, hcz39_4, hcz39_5, hcz39_6, hfz39_0, hfz39_1, hfz39_2, hfz39_3, hfz39_4, hfz39_5, hfz39_6⟩ := blk7 BK102.out))
  go_ret
  exact ⟨by first | rfl | (simp [errW_none, errW_some] <;> rfl) | (simp [*, errW_none, errW_some] <;> rfl), bq⟩
 rw [if_neg c3] at H
 have c3b0 : (a0_0 == a1_0) = false := beq_eq_false_iff_ne.mpr c3
 have c3b1 : (a0_0 != a1_0) = true := bne_iff_ne.mpr c3
 obtain rfl := Zgb H
 go_enter Try.func36, Try.ntmps36
 go_wp2_with (first | ((with_reducible refine gate_dst (N := 2) rfl ?_); refine box_event ?hg (N := 2) ?hd (cs := #[.int .i64 a0_0, .int .i64 a0_1, .bool a0_2, .bool a0_3, .bool a0_4, .bool a0_5, .slice A0_6 l0_6.length c0_6]) (t := 50) ?hr ?_; (case hd => rfl); (case hg => rfl); (case hr => first | (go_simp; done) | (go_simp; rfl)); intro gb101 hg w40 hbox hb; have n0_ := Zma (Zoa bq hb); have n1_ := Zma (hbox); have n2_ := Zma ((by rw [hg]; exact (Zfa bq) : w.heap.size ≤ gb101)); have n3_ := Zma ((by rw [hg]; exact (Zfa bq) : w.heap.size ≤ gb101)); clear HB; have HB := n0_; have BK101 := n1_; have GW101 := n2_; have GE101 := n3_; clear n0_ n1_ n2_ n3_ hb hbox hg) | ((with_reducible refine gate_dst (N := 3) rfl ?_); refine box_event ?hg (N := 3) ?hd (cs := #[.int .i64 a1_0, .int .i64 a1_1, .bool a1_2, .bool a1_3, .bool a1_4, .bool a1_5, .slice A1_6 l1_6.length c1_6]) (t := 50) ?hr ?_; (case hd => rfl); (case hg => rfl); (case hr => first | (go_simp; done) | (go_simp; rfl)); intro gb102 hg w41 hbox hb; have n0_ := Zma (Zab (g := gb101) (o := .cells #[.int .i64 a0_0, .int .i64 a0_1, .bool a0_2, .bool a0_3, .bool a0_4, .bool a0_5, .slice A0_6 l0_6.length c0_6] 50 (0, 0)) (kq BK101.out) hb); have n1_ := Zma (Zoa bq hb); have n2_ := Zma (hbox); have n3_ := Zma ((by rw [hg]; exact (Zfa bq) : w.heap.size ≤ gb102)); have n4_ := Zma ((by rw [hg]; exact (Zfa bq) : w.heap.size ≤ gb102)); have n5_ := Zma ((by rw [hg]; exact Zka (blk_lt (g := gb101) (o := .cells #[.int .i64 a0_0, .int .i64 a0_1, .bool a0_2, .bool a0_3, .bool a0_4, .bool a0_5, .slice A0_6 l0_6.length c0_6] 50 (0, 0)) (kq BK101.out)) : gb101 ≠ gb102)); have n6_ := Zma ((by rw [hg]; exact Nat.ne_of_gt (blk_lt (g := gb101) (o := .cells #[.int .i64 a0_0, .int .i64 a0_1, .bool a0_2, .bool a0_3, .bool a0_4, .bool a0_5, .slice A0_6 l0_6.length c0_6] 50 (0, 0)) (kq BK101.out)) : gb102 ≠ gb101)); clear BK101 HB; have BK101 := n0_; have HB := n1_; have BK102 := n2_; have GW102 := n3_; have GE102 := n4_; have NB101_102 := n5_; have NB102_101 := n6_; clear n0_ n1_ n2_ n3_ n4_ n5_ n6_ hb hbox hg; have hnb42 := NB101_102.out; have hnc42 := NB102_101.out; obtain ⟨hcz43_0, hcz43_1, hcz43_2, hcz43_3, hcz43_4, hcz43_5, hcz43_6, hfz43_0, hfz43_1, hfz43_2, hfz43_3, hfz43_4, hfz43_5, hfz43_6⟩ := blk7 BK101.out; obtain ⟨hcz44_0, hcz44_1, hcz44_2, hcz44_3, hcz44_4, hcz44_5, hcz44_6, hfz44_0, hfz44_1, hfz44_2, hfz44_3, hfz44_4, hfz44_5, hfz44_6⟩ := blk7 BK102.out))
 go_ret
 exact ⟨by first | rfl | (simp [errW_none, errW_some] <;> rfl) | (simp [*, errW_none, errW_some] <;> rfl), bq⟩

end Go.Proofs.Yteoclecadpapfaa.G
