/- What a call of psaltery/dgram.Whole does, told by a plain Lean function of its arguments. Written by a program for this claim. -/
import Derived.Test.YteoclecadpapfaaG0
import Derived.Test.YteoclecadpapfaaM7
namespace Go.Proofs.Yteoclecadpapfaa.G
open Go.RowKit Go.Proofs.YteoclecadpapfaaW.PrintWords Go.Proofs.YteoclecadpapfaaW.PrintLast Go.Proofs.YteoclecadpapfaaW.PrintMore
attribute [local go_sem] max2_int min2_int max_two min_two max_three min_three max_four min_four
set_option linter.unusedVariables false
set_option linter.unusedSimpArgs false

/-! ### dgram_Whole_raw: function 51 -/
mutual
def dgram_Whole_raw.j0 : Nat → Int → Int → Int → Bool → Option (Int × Int)
  | 0, _, _, _, _ => none
  | k + 1, x0, x1, x2, x33 => if x33 = true then (some (0, 1)) else (if 0 ≤ x2 then (if (Go.bits .or .i64 (Go.bits .andNot .i64 x0 (wrap64 ((shl .i64 1 x2) - 1))) x1) ≥ x0 then (if (wrap64 ((Go.bits .or .i64 (Go.bits .andNot .i64 x0 (wrap64 ((shl .i64 1 x2) - 1))) x1) - x0)) ≥ (wrap64 (Int.tdiv (shl .i64 1 x2) 2)) then (dgram_Whole_raw.j1 k x0 (shl .i64 1 x2) (Go.bits .or .i64 (Go.bits .andNot .i64 x0 (wrap64 ((shl .i64 1 x2) - 1))) x1) (decide ((Go.bits .or .i64 (Go.bits .andNot .i64 x0 (wrap64 ((shl .i64 1 x2) - 1))) x1) ≥ (shl .i64 1 x2)))) else (dgram_Whole_raw.j1 k x0 (shl .i64 1 x2) (Go.bits .or .i64 (Go.bits .andNot .i64 x0 (wrap64 ((shl .i64 1 x2) - 1))) x1) false)) else (dgram_Whole_raw.j1 k x0 (shl .i64 1 x2) (Go.bits .or .i64 (Go.bits .andNot .i64 x0 (wrap64 ((shl .i64 1 x2) - 1))) x1) false)) else (none))
def dgram_Whole_raw.j1 : Nat → Int → Int → Int → Bool → Option (Int × Int)
  | 0, _, _, _, _ => none
  | k + 1, x0, x8, x9, x42 => if x42 = true then (some (wrap64 (x9 - x8), 0)) else (if x9 < x0 then (if (wrap64 (x0 - x9)) > (wrap64 (Int.tdiv x8 2)) then (some (wrap64 (x9 + x8), 0)) else (some (x9, 0))) else (some (x9, 0)))
end
def dgram_Whole_raw.f (k : Nat) (a0 : Int) (a1 : Int) (a2 : Int) : Option (Int × Int) := if a0 < 0 then (dgram_Whole_raw.j0 k a0 a1 a2 true) else (if a0 > 1099511627776 then (dgram_Whole_raw.j0 k a0 a1 a2 true) else (if a2 < 1 then (dgram_Whole_raw.j0 k a0 a1 a2 true) else (if a2 > 32 then (dgram_Whole_raw.j0 k a0 a1 a2 true) else (if a1 < 0 then (dgram_Whole_raw.j0 k a0 a1 a2 true) else (if 0 ≤ a2 then (dgram_Whole_raw.j0 k a0 a1 a2 ((shr .i64 a1 a2) != 0)) else (none))))))
theorem dgram_Whole_raw.mono_l : ∀ k, (∀ y0 y1 y2 y3, LeO (dgram_Whole_raw.j0 k y0 y1 y2 y3) (dgram_Whole_raw.j0 (k + 1) y0 y1 y2 y3)) ∧ (∀ y0 y1 y2 y3, LeO (dgram_Whole_raw.j1 k y0 y1 y2 y3) (dgram_Whole_raw.j1 (k + 1) y0 y1 y2 y3))
  | 0 => ⟨fun _ _ _ _ r h => by simp [dgram_Whole_raw.j0] at h, fun _ _ _ _ r h => by simp [dgram_Whole_raw.j1] at h⟩
  | k + 1 => by
    obtain ⟨ih0, ih1⟩ := dgram_Whole_raw.mono_l k
    refine ⟨?_, ?_⟩
    · intro y0 y1 y2 y3
      unfold dgram_Whole_raw.j0
      repeat' first
      | (with_reducible exact ih0 _ _ _ _)
      | (with_reducible exact ih1 _ _ _ _)
      | (with_reducible exact LeO.refl _)
      | (with_reducible exact LeO.none _)
      | (with_reducible refine LeO.ite ?_ ?_)
      | (with_reducible refine LeO.bind ?_ (fun _ => ?_))
      | exact ih0 _ _ _ _
      | exact ih1 _ _ _ _
      | exact LeO.none _
      | refine LeO.ite ?_ ?_
      | refine LeO.bind ?_ (fun _ => ?_)
    · intro y0 y1 y2 y3
      unfold dgram_Whole_raw.j1
      repeat' first
      | (with_reducible exact ih0 _ _ _ _)
      | (with_reducible exact ih1 _ _ _ _)
      | (with_reducible exact LeO.refl _)
      | (with_reducible exact LeO.none _)
      | (with_reducible refine LeO.ite ?_ ?_)
      | (with_reducible refine LeO.bind ?_ (fun _ => ?_))
      | exact ih0 _ _ _ _
      | exact ih1 _ _ _ _
      | exact LeO.none _
      | refine LeO.ite ?_ ?_
      | refine LeO.bind ?_ (fun _ => ?_)
theorem dgram_Whole_raw.mono : ∀ a0 a1 a2 k, LeO (dgram_Whole_raw.f k a0 a1 a2) (dgram_Whole_raw.f (k + 1) a0 a1 a2) := by
  intro a0 a1 a2 k
  obtain ⟨ih0, ih1⟩ := dgram_Whole_raw.mono_l k
  unfold dgram_Whole_raw.f
  repeat' first
      | (with_reducible exact ih0 _ _ _ _)
      | (with_reducible exact ih1 _ _ _ _)
      | (with_reducible exact LeO.refl _)
      | (with_reducible exact LeO.none _)
      | (with_reducible refine LeO.ite ?_ ?_)
      | (with_reducible refine LeO.bind ?_ (fun _ => ?_))
      | exact ih0 _ _ _ _
      | exact ih1 _ _ _ _
      | exact LeO.none _
      | refine LeO.ite ?_ ?_
      | refine LeO.bind ?_ (fun _ => ?_)
set_option maxHeartbeats 8000000 in
set_option maxRecDepth 100000 in
theorem dgram_Whole_raw.calls (k : Nat) (a0 : Int) (a1 : Int) (a2 : Int) (r1 : Int) (r2 : Int) (w : World) (h : dgram_Whole_raw.f k a0 a1 a2 = some (r1, r2)) :
    Calls Try.prog 51 #[.int .i64 a0, .int .i64 a1, .int .i64 a2] w fun e w' => e = .returned (.tuple #[.int .i64 r1, .int .i64 r2]) ∧ Drawn0 w w' := by
  have H : (if a0 < 0 then (dgram_Whole_raw.j0 k a0 a1 a2 true) else (if a0 > 1099511627776 then (dgram_Whole_raw.j0 k a0 a1 a2 true) else (if a2 < 1 then (dgram_Whole_raw.j0 k a0 a1 a2 true) else (if a2 > 32 then (dgram_Whole_raw.j0 k a0 a1 a2 true) else (if a1 < 0 then (dgram_Whole_raw.j0 k a0 a1 a2 true) else (if 0 ≤ a2 then (dgram_Whole_raw.j0 k a0 a1 a2 ((shr .i64 a1 a2) != 0)) else (none))))))) = some (r1, r2) := h
  clear h
  have HC4 := Aside0.mk H
  clear H
  go_enter Try.func51, Try.ntmps51
  go_upto_region 1 with (fail)
  go_cut [33] (fun v33 wc => ∃ (kq : Nat) (x33_3 : Bool), v33 = .bool x33_3 ∧ Aside0 (dgram_Whole_raw.j0 kq a0 a1 a2 x33_3 = some (r1, r2)) ∧ Aside0 (kq ≤ k) ∧ Drawn0 w wc)
  case first =>
    have H := HC4.out
    clear HC4
    by_cases c5 : a0 < 0
    · rw [if_pos c5] at H
      have c5b0 : decide (a0 < 0) = true := decide_eq_true c5
      clear c5
      (first | rw [c5b0] | (simp only [i64_w, i32_w]; rw [c5b0]) | skip)
      have H' := Aside0.mk H
      clear H
      go_wp2
      go_meet
      case rel => exact ⟨_, (true), (by first | rfl | (simp; done) | (simp [*]; done)), H', ⟨by first | omega | exact Nat.le_refl _⟩, by repeat (first | exact Drawn0.refl _ | apply Drawn0.step)⟩
    · rw [if_neg c5] at H
      have c5b0 : decide (a0 < 0) = false := decide_eq_false c5
      clear c5
      (first | rw [c5b0] | (simp only [i64_w, i32_w]; rw [c5b0]) | skip)
      by_cases c6 : a0 > 1099511627776
      · rw [if_pos c6] at H
        have c6b0 : decide (1099511627776 < a0) = true := decide_eq_true c6
        clear c6
        have H' := Aside0.mk H
        clear H
        go_wp2
        go_meet
        case rel => exact ⟨_, (true), (by first | rfl | (simp; done) | (simp [*]; done)), H', ⟨by first | omega | exact Nat.le_refl _⟩, by repeat (first | exact Drawn0.refl _ | apply Drawn0.step)⟩
      · rw [if_neg c6] at H
        have c6b0 : decide (1099511627776 < a0) = false := decide_eq_false c6
        clear c6
        by_cases c7 : a2 < 1
        · rw [if_pos c7] at H
          have c7b0 : decide (a2 < 1) = true := decide_eq_true c7
          clear c7
          have H' := Aside0.mk H
          clear H
          go_wp2
          go_meet
          case rel => exact ⟨_, (true), (by first | rfl | (simp; done) | (simp [*]; done)), H', ⟨by first | omega | exact Nat.le_refl _⟩, by repeat (first | exact Drawn0.refl _ | apply Drawn0.step)⟩
        · rw [if_neg c7] at H
          have c7b0 : decide (a2 < 1) = false := decide_eq_false c7
          clear c7
          by_cases c8 : a2 > 32
          · rw [if_pos c8] at H
            have c8b0 : decide (32 < a2) = true := decide_eq_true c8
            clear c8
            have H' := Aside0.mk H
            clear H
            go_wp2
            go_meet
            case rel => exact ⟨_, (true), (by first | rfl | (simp; done) | (simp [*]; done)), H', ⟨by first | omega | exact Nat.le_refl _⟩, by repeat (first | exact Drawn0.refl _ | apply Drawn0.step)⟩
          · rw [if_neg c8] at H
            have c8b0 : decide (32 < a2) = false := decide_eq_false c8
            clear c8
            by_cases c9 : a1 < 0
            · rw [if_pos c9] at H
              have c9b0 : decide (a1 < 0) = true := decide_eq_true c9
              clear c9
              have H' := Aside0.mk H
              clear H
              go_wp2
              go_meet
              case rel => exact ⟨_, (true), (by first | rfl | (simp; done) | (simp [*]; done)), H', ⟨by first | omega | exact Nat.le_refl _⟩, by repeat (first | exact Drawn0.refl _ | apply Drawn0.step)⟩
            · rw [if_neg c9] at H
              have c9b0 : decide (a1 < 0) = false := decide_eq_false c9
              clear c9
              by_cases c10 : 0 ≤ a2
              · rw [if_pos c10] at H
                have c10b0 := eq_true c10
                have c10b1 : decide (0 ≤ a2) = true := decide_eq_true c10
                clear c10
                obtain ⟨ji11, hji11⟩ : ∃ j_ : Int, (shr .i64 a1 a2) = j_ := ⟨_, rfl⟩
                replace H : (dgram_Whole_raw.j0 k a0 a1 a2 ((ji11) != 0)) = some (r1, r2) := by first | (rw [hji11] at H; exact H) | (simp only [hji11] at H ⊢; exact H)
                have hji11_ : (a1 / 2 ^ min a2.toNat 64) = ji11 := hji11
                have hji11z : a2 ≤ 64 → (a1 / 2 ^ a2.toNat) = ji11 := shr_small hji11
                have H' := Aside0.mk H
                clear H
                go_wp2
                go_meet
                case rel => exact ⟨_, (((ji11) != 0)), (by first | rfl | (simp; done) | (simp only [← hji11] <;> (first | rfl | simp)) | (simp [*]; done)), H', ⟨by first | omega | exact Nat.le_refl _⟩, by repeat (first | exact Drawn0.refl _ | apply Drawn0.step)⟩
              · rw [if_neg c10] at H
                exact absurd H (by simp)
  case rest =>
    clear HC4
    try clear c1
    try clear p2
    try clear c5
    try clear c5b0
    try clear c6
    try clear c6b0
    try clear c7
    try clear c7b0
    try clear c8
    try clear c8b0
    try clear c9
    try clear c9b0
    try clear c10
    try clear c10b0
    try clear c10b1
    obtain ⟨kq, x33_3, rfl, HA, HJ3, ⟨mc3, rfl⟩⟩ := hcut
    cases kq with
    | zero => exact absurd HA.out (by simp [dgram_Whole_raw.j0])
    | succ kj3 =>
      have H := HA.out
      clear HA
      simp only [dgram_Whole_raw.j0] at H
      by_cases c12 : x33_3 = true
      · subst c12
        have H1 : (some (0, 1)) = some (r1, r2) := by rw [if_pos rfl] at H; exact H
        clear H
        have H := H1
        clear H1
        simp only [Option.some.injEq, Prod.mk.injEq] at H
        obtain ⟨rfl, rfl⟩ := H
        go_wp2
        go_ret2
        exact ⟨by first | rfl | (simp; done) | (simp [*]; done), by repeat (first | exact Drawn0.refl _ | apply Drawn0.step)⟩
      · replace c12 := Bool.eq_false_iff.mpr c12
        subst c12
        have H1 : (if 0 ≤ a2 then (if (Go.bits .or .i64 (Go.bits .andNot .i64 a0 (wrap64 ((shl .i64 1 a2) - 1))) a1) ≥ a0 then (if (wrap64 ((Go.bits .or .i64 (Go.bits .andNot .i64 a0 (wrap64 ((shl .i64 1 a2) - 1))) a1) - a0)) ≥ (wrap64 (Int.tdiv (shl .i64 1 a2) 2)) then (dgram_Whole_raw.j1 kj3 a0 (shl .i64 1 a2) (Go.bits .or .i64 (Go.bits .andNot .i64 a0 (wrap64 ((shl .i64 1 a2) - 1))) a1) (decide ((Go.bits .or .i64 (Go.bits .andNot .i64 a0 (wrap64 ((shl .i64 1 a2) - 1))) a1) ≥ (shl .i64 1 a2)))) else (dgram_Whole_raw.j1 kj3 a0 (shl .i64 1 a2) (Go.bits .or .i64 (Go.bits .andNot .i64 a0 (wrap64 ((shl .i64 1 a2) - 1))) a1) false)) else (dgram_Whole_raw.j1 kj3 a0 (shl .i64 1 a2) (Go.bits .or .i64 (Go.bits .andNot .i64 a0 (wrap64 ((shl .i64 1 a2) - 1))) a1) false)) else (none)) = some (r1, r2) := by rw [if_neg (show ¬ (false = true) by decide)] at H; exact H
        clear H
        have H := H1
        clear H1
        by_cases c13 : 0 ≤ a2
        · rw [if_pos c13] at H
          have c13b0 := eq_true c13
          have c13b1 : decide (0 ≤ a2) = true := decide_eq_true c13
          clear c13
          obtain ⟨ji14, hji14⟩ : ∃ j_ : Int, (shl .i64 1 a2) = j_ := ⟨_, rfl⟩
          replace H : (if (Go.bits .or .i64 (Go.bits .andNot .i64 a0 (wrap64 ((ji14) - 1))) a1) ≥ a0 then (if (wrap64 ((Go.bits .or .i64 (Go.bits .andNot .i64 a0 (wrap64 ((ji14) - 1))) a1) - a0)) ≥ (wrap64 (Int.tdiv (ji14) 2)) then (dgram_Whole_raw.j1 kj3 a0 ji14 (Go.bits .or .i64 (Go.bits .andNot .i64 a0 (wrap64 ((ji14) - 1))) a1) (decide ((Go.bits .or .i64 (Go.bits .andNot .i64 a0 (wrap64 ((ji14) - 1))) a1) ≥ (ji14)))) else (dgram_Whole_raw.j1 kj3 a0 ji14 (Go.bits .or .i64 (Go.bits .andNot .i64 a0 (wrap64 ((ji14) - 1))) a1) false)) else (dgram_Whole_raw.j1 kj3 a0 ji14 (Go.bits .or .i64 (Go.bits .andNot .i64 a0 (wrap64 ((ji14) - 1))) a1) false)) = some (r1, r2) := by first | (rw [hji14] at H; exact H) | (simp only [hji14] at H ⊢; exact H)
          have hji14_ : (IntKind.i64.wrap (1 * 2 ^ min a2.toNat 64)) = ji14 := hji14
          have hji14z : a2 ≤ 64 → (IntKind.i64.wrap (1 * 2 ^ a2.toNat)) = ji14 := shl_small hji14
          have hji14u : (IntKind.i64.wrap (2 ^ min a2.toNat 64)) = ji14 := by have h_ := hji14_; rw [Int.one_mul] at h_; exact h_
          have hji14v : a2 ≤ 64 → (IntKind.i64.wrap (2 ^ a2.toNat)) = ji14 := fun hle_ => by have h_ := hji14z hle_; rw [Int.one_mul] at h_; exact h_
          have hji14y : (wrap64 (1 * 2 ^ min a2.toNat 64)) = ji14 := (i64_w _).symm.trans hji14_
          have hji14x : a2 ≤ 64 → (wrap64 (1 * 2 ^ a2.toNat)) = ji14 := fun h_ => (i64_w _).symm.trans (hji14z h_)
          have HC15 := Aside0.mk H
          clear H
          go_upto_region 5 with (fail)
          go_cut [42] (fun v42 wc => ∃ (kq : Nat) (x42_14 : Bool), v42 = .bool x42_14 ∧ Aside0 (dgram_Whole_raw.j1 kq a0 ji14 (Go.bits .or .i64 (Go.bits .andNot .i64 a0 (wrap64 ((ji14) - 1))) a1) x42_14 = some (r1, r2)) ∧ Aside0 (kq ≤ kj3) ∧ Drawn0 w wc)
          case first =>
            have H := HC15.out
            clear HC15
            by_cases c16 : (Go.bits .or .i64 (Go.bits .andNot .i64 a0 (wrap64 ((ji14) - 1))) a1) ≥ a0
            · rw [if_pos c16] at H
              have c16b0 : decide (a0 ≤ (Go.bits .or .i64 (Go.bits .andNot .i64 a0 (wrap64 ((ji14) - 1))) a1)) = true := decide_eq_true c16
              clear c16
              (first | rw [c16b0] | (simp only [i64_w, i32_w]; rw [c16b0]) | skip)
              by_cases c17 : (wrap64 ((Go.bits .or .i64 (Go.bits .andNot .i64 a0 (wrap64 ((ji14) - 1))) a1) - a0)) ≥ (wrap64 (Int.tdiv (ji14) 2))
              · rw [if_pos c17] at H
                have c17b0 : decide ((wrap64 (Int.tdiv (ji14) 2)) ≤ (wrap64 ((Go.bits .or .i64 (Go.bits .andNot .i64 a0 (wrap64 ((ji14) - 1))) a1) - a0))) = true := decide_eq_true c17
                clear c17
                have H' := Aside0.mk H
                clear H
                go_wp2
                go_meet
                case rel => exact ⟨_, (decide ((Go.bits .or .i64 (Go.bits .andNot .i64 a0 (wrap64 ((ji14) - 1))) a1) ≥ (ji14))), (by first | rfl | (simp; done) | (simp only [← hji14] <;> (first | rfl | simp)) | (simp [*]; done)), H', ⟨by have := HJ3.out; first | omega | exact Nat.le_refl _⟩, by repeat (first | exact Drawn0.refl _ | apply Drawn0.step)⟩
              · rw [if_neg c17] at H
                have c17b0 : decide ((wrap64 (Int.tdiv (ji14) 2)) ≤ (wrap64 ((Go.bits .or .i64 (Go.bits .andNot .i64 a0 (wrap64 ((ji14) - 1))) a1) - a0))) = false := decide_eq_false c17
                clear c17
                have H' := Aside0.mk H
                clear H
                go_wp2
                go_meet
                case rel => exact ⟨_, (false), (by first | rfl | (simp; done) | (simp [*]; done)), H', ⟨by have := HJ3.out; first | omega | exact Nat.le_refl _⟩, by repeat (first | exact Drawn0.refl _ | apply Drawn0.step)⟩
            · rw [if_neg c16] at H
              have c16b0 : decide (a0 ≤ (Go.bits .or .i64 (Go.bits .andNot .i64 a0 (wrap64 ((ji14) - 1))) a1)) = false := decide_eq_false c16
              clear c16
              (first | rw [c16b0] | (simp only [i64_w, i32_w]; rw [c16b0]) | skip)
              have H' := Aside0.mk H
              clear H
              go_wp2
              go_meet
              case rel => exact ⟨_, (false), (by first | rfl | (simp; done) | (simp [*]; done)), H', ⟨by have := HJ3.out; first | omega | exact Nat.le_refl _⟩, by repeat (first | exact Drawn0.refl _ | apply Drawn0.step)⟩
          case rest =>
            clear HC15
            try clear c1
            try clear p2
            try clear c3
            try clear c5
            try clear c5b0
            try clear c6
            try clear c6b0
            try clear p6
            try clear c7
            try clear c7b0
            try clear c8
            try clear c8b0
            try clear c9
            try clear c9b0
            try clear c10
            try clear c10b0
            try clear c10b1
            try clear c12
            try clear c13
            try clear c13b0
            try clear c13b1
            try clear c16
            try clear c16b0
            try clear c17
            try clear c17b0
            try clear p2
            obtain ⟨kq, x42_14, rfl, HA, HJ14, ⟨mc14, rfl⟩⟩ := hcut
            cases kq with
            | zero => exact absurd HA.out (by simp [dgram_Whole_raw.j1])
            | succ kj14 =>
              have H := HA.out
              clear HA
              simp only [dgram_Whole_raw.j1] at H
              by_cases c18 : x42_14 = true
              · subst c18
                have H1 : (some (wrap64 ((Go.bits .or .i64 (Go.bits .andNot .i64 a0 (wrap64 ((ji14) - 1))) a1) - ji14), 0)) = some (r1, r2) := by rw [if_pos rfl] at H; exact H
                clear H
                have H := H1
                clear H1
                simp only [Option.some.injEq, Prod.mk.injEq] at H
                obtain ⟨rfl, rfl⟩ := H
                go_wp2
                go_ret2
                exact ⟨by first | rfl | (simp; done) | (simp only [← hji14] <;> (first | rfl | simp)) | (simp [*]; done), by repeat (first | exact Drawn0.refl _ | apply Drawn0.step)⟩
              · replace c18 := Bool.eq_false_iff.mpr c18
                subst c18
                have H1 : (if (Go.bits .or .i64 (Go.bits .andNot .i64 a0 (wrap64 ((ji14) - 1))) a1) < a0 then (if (wrap64 (a0 - (Go.bits .or .i64 (Go.bits .andNot .i64 a0 (wrap64 ((ji14) - 1))) a1))) > (wrap64 (Int.tdiv ji14 2)) then (some (wrap64 ((Go.bits .or .i64 (Go.bits .andNot .i64 a0 (wrap64 ((ji14) - 1))) a1) + ji14), 0)) else (some ((Go.bits .or .i64 (Go.bits .andNot .i64 a0 (wrap64 ((ji14) - 1))) a1), 0))) else (some ((Go.bits .or .i64 (Go.bits .andNot .i64 a0 (wrap64 ((ji14) - 1))) a1), 0))) = some (r1, r2) := by rw [if_neg (show ¬ (false = true) by decide)] at H; exact H
                clear H
                have H := H1
                clear H1
                by_cases c19 : (Go.bits .or .i64 (Go.bits .andNot .i64 a0 (wrap64 ((ji14) - 1))) a1) < a0
                · rw [if_pos c19] at H
                  have c19b0 : decide ((Go.bits .or .i64 (Go.bits .andNot .i64 a0 (wrap64 ((ji14) - 1))) a1) < a0) = true := decide_eq_true c19
                  clear c19
                  by_cases c20 : (wrap64 (a0 - (Go.bits .or .i64 (Go.bits .andNot .i64 a0 (wrap64 ((ji14) - 1))) a1))) > (wrap64 (Int.tdiv ji14 2))
                  · rw [if_pos c20] at H
                    have c20b0 : decide ((wrap64 (Int.tdiv ji14 2)) < (wrap64 (a0 - (Go.bits .or .i64 (Go.bits .andNot .i64 a0 (wrap64 ((ji14) - 1))) a1)))) = true := decide_eq_true c20
                    clear c20
                    simp only [Option.some.injEq, Prod.mk.injEq] at H
                    obtain ⟨rfl, rfl⟩ := H
                    go_wp2
                    go_ret2
                    exact ⟨by first | rfl | (simp; done) | (simp only [← hji14] <;> (first | rfl | simp)) | (simp [*]; done), by repeat (first | exact Drawn0.refl _ | apply Drawn0.step)⟩
                  · rw [if_neg c20] at H
                    have c20b0 : decide ((wrap64 (Int.tdiv ji14 2)) < (wrap64 (a0 - (Go.bits .or .i64 (Go.bits .andNot .i64 a0 (wrap64 ((ji14) - 1))) a1)))) = false := decide_eq_false c20
                    clear c20
                    simp only [Option.some.injEq, Prod.mk.injEq] at H
                    obtain ⟨rfl, rfl⟩ := H
                    go_wp2
                    go_ret2
                    exact ⟨by first | rfl | (simp; done) | (simp only [← hji14] <;> (first | rfl | simp)) | (simp [*]; done), by repeat (first | exact Drawn0.refl _ | apply Drawn0.step)⟩
                · rw [if_neg c19] at H
                  have c19b0 : decide ((Go.bits .or .i64 (Go.bits .andNot .i64 a0 (wrap64 ((ji14) - 1))) a1) < a0) = false := decide_eq_false c19
                  clear c19
                  simp only [Option.some.injEq, Prod.mk.injEq] at H
                  obtain ⟨rfl, rfl⟩ := H
                  go_wp2
                  go_ret2
                  exact ⟨by first | rfl | (simp; done) | (simp only [← hji14] <;> (first | rfl | simp)) | (simp [*]; done), by repeat (first | exact Drawn0.refl _ | apply Drawn0.step)⟩
        · rw [if_neg c13] at H
          exact absurd H (by simp)

def dgram_Whole.f (n v bits : Int) : Option (Int × Int) := if Fair n v bits then some (wholeI n v bits.toNat, 0) else some (0, 1)
theorem dgram_Whole.step {k : Nat} (n v : Int) (b : Nat) (hb1 : 1 ≤ b) (hb : b ≤ 32) (h0 : 0 ≤ n) (h1 : n ≤ 1099511627776) (hv0 : 0 ≤ v) (hv1 : v < 2 ^ b) : dgram_Whole_raw.j0 (k + 2) n v (b : Int) false = some (wholeI n v b, 0) := by
  obtain ⟨q, hq, hq1, hq2⟩ := two_pow_half b hb1 hb
  have hp : (0 : Int) < 2 ^ b := by omega
  obtain ⟨d1, d2, d3, d4⟩ := div_parts n (2 ^ b) h0 hp
  have eo := or_whole n v b hb h0 h1 hv0 hv1
  have ea := andNot_low n b hb h0 (by omega)
  have es := shl_one b hb
  have e1 : wrap64 ((2 : Int) ^ b - 1) = 2 ^ b - 1 := wrap64_of (by omega) (by omega)
  have h4 : (0 : Int) ≤ (b : Int) := by omega
  unfold wholeI
  simp only [dgram_Whole_raw.j0]
  rw [if_neg (by simp), if_pos h4, es, e1, ea, eo]
  rw [hq] at d1 d2 d3 d4 hv1 ⊢
  generalize n / (2 * q) * (2 * q) = p at d1 d2 d3 d4 ⊢
  have e2 : wrap64 (p + v - n) = p + v - n := wrap64_of (by omega) (by omega)
  have e3 : wrap64 (Int.tdiv (2 * q) 2) = q := by rw [Int.tdiv_eq_ediv_of_nonneg (by omega), wrap64_of (by omega) (by omega)]; omega
  have e4 : (2 * q) / 2 = q := by omega
  have e5 : wrap64 (p + v - 2 * q) = p + v - 2 * q := wrap64_of (by omega) (by omega)
  have e6 : wrap64 (n - (p + v)) = n - (p + v) := wrap64_of (by omega) (by omega)
  have e7 : wrap64 (p + v + 2 * q) = p + v + 2 * q := wrap64_of (by omega) (by omega)
  rw [e2, e3, e4]
  simp only [dgram_Whole_raw.j1, e3, e5, e6, e7]
  by_cases c1 : p + v ≥ n
  · rw [if_pos c1]
    by_cases c2 : p + v - n ≥ q
    · rw [if_pos c2]
      by_cases c3 : p + v ≥ 2 * q
      · rw [decide_eq_true c3, if_pos rfl, if_pos ⟨c1, c2, c3⟩]
      · rw [decide_eq_false c3, if_neg (by simp), if_neg (show ¬ p + v < n by omega), if_neg (show ¬ (n ≤ p + v ∧ q ≤ p + v - n ∧ 2 * q ≤ p + v) from fun h => c3 h.2.2), if_neg (show ¬ (p + v < n ∧ q < n - (p + v)) by omega)]
    · rw [if_neg c2, if_neg (by simp), if_neg (show ¬ p + v < n by omega), if_neg (show ¬ (n ≤ p + v ∧ q ≤ p + v - n ∧ 2 * q ≤ p + v) from fun h => c2 h.2.1), if_neg (show ¬ (p + v < n ∧ q < n - (p + v)) by omega)]
  · rw [if_neg c1, if_neg (by simp), if_pos (show p + v < n by omega)]
    rw [if_neg (show ¬ (n ≤ p + v ∧ q ≤ p + v - n ∧ 2 * q ≤ p + v) from fun h => c1 h.1)]
    by_cases c4 : n - (p + v) > q
    · rw [if_pos c4, if_pos ⟨by omega, c4⟩]
    · rw [if_neg c4, if_neg (fun h => c4 h.2)]
theorem dgram_Whole.of {n v bits : Int} {r : Int × Int} (h : dgram_Whole.f n v bits = some r) : ∃ k, dgram_Whole_raw.f k n v bits = some r := by
  refine ⟨2, ?_⟩
  rw [← h]
  clear h
  unfold dgram_Whole.f dgram_Whole_raw.f
  by_cases h1 : n < 0
  · rw [if_pos h1, if_neg (fun h => by have := h.1; omega)]; rfl
  · rw [if_neg h1]
    by_cases h2 : n > 1099511627776
    · rw [if_pos h2, if_neg (fun h => by have := h.2.1; omega)]; rfl
    · rw [if_neg h2]
      by_cases h3 : bits < 1
      · rw [if_pos h3, if_neg (fun h => by have := h.2.2.1; omega)]; rfl
      · rw [if_neg h3]
        by_cases h4 : bits > 32
        · rw [if_pos h4, if_neg (fun h => by have := h.2.2.2.1; omega)]; rfl
        · rw [if_neg h4]
          by_cases h5 : v < 0
          · rw [if_pos h5, if_neg (fun h => by have := h.2.2.2.2.1; omega)]; rfl
          · have h6 : 0 ≤ bits := by omega
            rw [if_neg h5, if_pos h6]
            obtain ⟨b, rfl⟩ := Int.eq_ofNat_of_zero_le h6
            obtain ⟨q, hq, hq1, hq2⟩ := two_pow_half b (by omega) (by omega)
            rw [shr_pow v b (by omega)]
            by_cases h7 : v < 2 ^ b
            · have hz : v / 2 ^ b = 0 := Int.ediv_eq_zero_of_lt (by omega) h7
              rw [hz, if_pos (show Fair n v (b : Int) from ⟨by omega, by omega, by omega, by omega, by omega, by rw [Int.toNat_natCast]; exact h7⟩), Int.toNat_natCast]
              exact dgram_Whole.step (k := 0) n v b (by omega) (by omega) (by omega) (by omega) (by omega) h7
            · have hz : ¬ v / 2 ^ b = 0 := by
                rw [hq] at h7 ⊢
                intro hz
                have := Int.lt_ediv_add_one_mul_self v (show 0 < 2 * q by omega)
                rw [hz] at this
                omega
              rw [if_neg (fun h => h7 (by have := h.2.2.2.2.2; rwa [Int.toNat_natCast] at this))]
              rw [show (v / 2 ^ b != 0) = true from bne_iff_ne.mpr hz]
              rfl
theorem dgram_Whole.calls (a0 : Int) (a1 : Int) (a2 : Int) (r1 : Int) (r2 : Int) (w : World) (h : dgram_Whole.f a0 a1 a2 = some (r1, r2)) :
    Calls Try.prog 51 #[.int .i64 a0, .int .i64 a1, .int .i64 a2] w fun e w' => e = .returned (.tuple #[.int .i64 r1, .int .i64 r2]) ∧ Drawn0 w w' := by
  obtain ⟨k, hk⟩ := dgram_Whole.of h
  exact dgram_Whole_raw.calls k a0 a1 a2 r1 r2 w hk

end Go.Proofs.Yteoclecadpapfaa.G
