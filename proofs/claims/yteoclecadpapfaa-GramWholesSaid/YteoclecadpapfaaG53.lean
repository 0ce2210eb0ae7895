/- What a call of psaltery/psalteryref19.Whole does, told by a plain Lean function of its arguments. Written by a program for this claim. -/
import Derived.Test.YteoclecadpapfaaG0
import Derived.Test.YteoclecadpapfaaG72
import Derived.Test.YteoclecadpapfaaG73
import Derived.Test.YteoclecadpapfaaM7
namespace Go.Proofs.Yteoclecadpapfaa.G
open Go.RowKit Go.Proofs.YteoclecadpapfaaW.PrintWords Go.Proofs.YteoclecadpapfaaW.PrintLast Go.Proofs.YteoclecadpapfaaW.PrintMore
attribute [local go_sem] max2_int min2_int max_two min_two max_three min_three max_four min_four
set_option linter.unusedVariables false
set_option linter.unusedSimpArgs false

/-! ### psalteryref19_Whole_raw: function 53 -/
def psalteryref19_Whole_raw.l0 : Nat → Int → Int → Int → Int → Int → Option (Int)
  | 0, _, _, _, _, _ => none
  | k + 1, x0, x1, x7, x8, x9 => if x9 ≤ 1 then (if x7 = 0 then (none) else (if (wrap64 ((wrap64 ((wrap64 ((wrap64 (Int.tdiv x0 x7)) + x9)) * x7)) + x1)) ≥ 0 then (if x8 < 0 then (psalteryref19_Whole_raw.l0 k x0 x1 x7 (wrap64 ((wrap64 ((wrap64 ((wrap64 (Int.tdiv x0 x7)) + x9)) * x7)) + x1)) (wrap64 (x9 + 1))) else ((psalteryref19_far.f (wrap64 ((wrap64 ((wrap64 ((wrap64 (Int.tdiv x0 x7)) + x9)) * x7)) + x1)) x0).bind fun t102 => ((psalteryref19_far.f x8 x0).bind fun t103 => (if t102 < t103 then (psalteryref19_Whole_raw.l0 k x0 x1 x7 (wrap64 ((wrap64 ((wrap64 ((wrap64 (Int.tdiv x0 x7)) + x9)) * x7)) + x1)) (wrap64 (x9 + 1))) else (psalteryref19_Whole_raw.l0 k x0 x1 x7 x8 (wrap64 (x9 + 1))))))) else (psalteryref19_Whole_raw.l0 k x0 x1 x7 x8 (wrap64 (x9 + 1))))) else (some x8)
def psalteryref19_Whole_raw.f (k : Nat) (a0 : Int) (a1 : Int) (a2 : Int) : Option (Int) := (psalteryref19_power.f a2).bind fun t101 => (psalteryref19_Whole_raw.l0 k a0 a1 t101 (-1) (-1))
theorem psalteryref19_Whole_raw.mono_l : ∀ k, (∀ y0 y1 y2 y3 y4, LeO (psalteryref19_Whole_raw.l0 k y0 y1 y2 y3 y4) (psalteryref19_Whole_raw.l0 (k + 1) y0 y1 y2 y3 y4))
  | 0 => fun _ _ _ _ _ r h => by simp [psalteryref19_Whole_raw.l0] at h
  | k + 1 => by
    have ih0 := psalteryref19_Whole_raw.mono_l k
    · intro y0 y1 y2 y3 y4
      unfold psalteryref19_Whole_raw.l0
      repeat' first
      | (with_reducible exact ih0 _ _ _ _ _)
      | (with_reducible exact LeO.refl _)
      | (with_reducible exact LeO.none _)
      | (with_reducible refine LeO.ite ?_ ?_)
      | (with_reducible refine LeO.bind ?_ (fun _ => ?_))
      | exact ih0 _ _ _ _ _
      | exact LeO.none _
      | refine LeO.ite ?_ ?_
      | refine LeO.bind ?_ (fun _ => ?_)
theorem psalteryref19_Whole_raw.mono : ∀ a0 a1 a2 k, LeO (psalteryref19_Whole_raw.f k a0 a1 a2) (psalteryref19_Whole_raw.f (k + 1) a0 a1 a2) := by
  intro a0 a1 a2 k
  have ih0 := psalteryref19_Whole_raw.mono_l k
  unfold psalteryref19_Whole_raw.f
  repeat' first
      | (with_reducible exact ih0 _ _ _ _ _)
      | (with_reducible exact LeO.refl _)
      | (with_reducible exact LeO.none _)
      | (with_reducible refine LeO.ite ?_ ?_)
      | (with_reducible refine LeO.bind ?_ (fun _ => ?_))
      | exact ih0 _ _ _ _ _
      | exact LeO.none _
      | refine LeO.ite ?_ ?_
      | refine LeO.bind ?_ (fun _ => ?_)
set_option maxHeartbeats 8000000 in
set_option maxRecDepth 100000 in
theorem psalteryref19_Whole_raw.calls (k : Nat) (a0 : Int) (a1 : Int) (a2 : Int) (r : Int) (w : World) (h : psalteryref19_Whole_raw.f k a0 a1 a2 = some r) :
    Calls Try.prog 53 #[.int .i64 a0, .int .i64 a1, .int .i64 a2] w fun e w' => e = .returned (.int .i64 r) ∧ Drawn0 w w' := by
  have H : ((psalteryref19_power.f a2).bind fun t101 => (psalteryref19_Whole_raw.l0 k a0 a1 t101 (-1) (-1))) = some r := h
  clear h
  replace H := Option.bind_eq_some_iff.mp H
  obtain ⟨t101, A40, H⟩ := H
  replace H : (psalteryref19_Whole_raw.l0 k a0 a1 t101 (-1) (-1)) = some r := H
  have A4 := Aside0.mk A40
  clear A40
  have H' := Aside0.mk H
  clear H
  go_enter Try.func53, Try.ntmps53
  go_wp2_with (first | ((with_reducible refine gate_callee (f := 72) rfl ?_); refine goesL_ (some 12) rfl rfl Try.func72 (by kernel_rfl) rfl #[.int .i64 a2] rfl (by (try simp only [List.map_toArray, List.map_cons, List.map_nil]); first | done | rfl | (simp only [List.length_drop, List.length_take]; rfl)) ?_; (with_reducible refine (psalteryref19_power.calls a2 t101 _ A4.out).mono ?_); rintro e w' ⟨rfl, ⟨nd, rfl⟩⟩; refine ⟨_, rfl, ?_⟩))
  go_loopg [8, 9] k (fun kq v8 v9 w' => ∃ (x8_1 : Int) (x9_1 : Int), v8 = .int .i64 x8_1 ∧ v9 = .int .i64 x9_1 ∧ Aside0 (psalteryref19_Whole_raw.l0 kq a0 a1 t101 x8_1 x9_1 = some r) ∧ Aside0 (kq ≤ k) ∧ Drawn0 w w')
  case atStart => exact ⟨((-1)), ((-1)), (by first | rfl | (simp; done) | (simp [*]; done)), (by first | rfl | (simp; done) | (simp [*]; done)), H', ⟨Nat.le_refl _⟩, by repeat (first | exact Drawn0.refl _ | apply Drawn0.step)⟩
  case round =>
    clear H'
    try clear p2
    obtain ⟨x8_1, x9_1, rfl, rfl, HA, HK1, ⟨m1, rfl⟩⟩ := hrel
    cases gk with
    | zero => exact absurd HA.out (by simp [psalteryref19_Whole_raw.l0])
    | succ k1 =>
      have H := HA.out
      clear HA
      simp only [psalteryref19_Whole_raw.l0] at H
      by_cases c5 : x9_1 ≤ 1
      · rw [if_pos c5] at H
        have c5b0 : decide (x9_1 ≤ 1) = true := decide_eq_true c5
        clear c5
        by_cases c6 : t101 = 0
        · rw [if_pos c6] at H
          exact absurd H (by simp)
        · rw [if_neg c6] at H
          have c6b0 : (t101 == 0) = false := beq_eq_false_iff_ne.mpr c6
          have c6b1 : (t101 != 0) = true := bne_iff_ne.mpr c6
          by_cases c7 : (wrap64 ((wrap64 ((wrap64 ((wrap64 (Int.tdiv a0 t101)) + x9_1)) * t101)) + a1)) ≥ 0
          · rw [if_pos c7] at H
            have c7b0 : decide (0 ≤ (wrap64 ((wrap64 ((wrap64 ((wrap64 (Int.tdiv a0 t101)) + x9_1)) * t101)) + a1))) = true := decide_eq_true c7
            clear c7
            by_cases c8 : x8_1 < 0
            · rw [if_pos c8] at H
              have c8b0 : decide (x8_1 < 0) = true := decide_eq_true c8
              clear c8
              have H' := Aside0.mk H
              clear H
              go_wp2
              go_roundg k1
              case measure => have := HK1.out; omega
              case rel => exact ⟨(wrap64 ((wrap64 ((wrap64 ((wrap64 (Int.tdiv a0 t101)) + x9_1)) * t101)) + a1)), (wrap64 (x9_1 + 1)), (by first | rfl | (simp; done) | (simp [*]; done)), (by first | rfl | (simp; done) | (simp [*]; done)), H', ⟨by have := HK1.out; omega⟩, by repeat (first | exact Drawn0.refl _ | apply Drawn0.step)⟩
            · rw [if_neg c8] at H
              have c8b0 : decide (x8_1 < 0) = false := decide_eq_false c8
              clear c8
              replace H := Option.bind_eq_some_iff.mp H
              obtain ⟨t102, A90, H⟩ := H
              replace H : ((psalteryref19_far.f x8_1 a0).bind fun t103 => (if t102 < t103 then (psalteryref19_Whole_raw.l0 k1 a0 a1 t101 (wrap64 ((wrap64 ((wrap64 ((wrap64 (Int.tdiv a0 t101)) + x9_1)) * t101)) + a1)) (wrap64 (x9_1 + 1))) else (psalteryref19_Whole_raw.l0 k1 a0 a1 t101 x8_1 (wrap64 (x9_1 + 1))))) = some r := H
              have A9 := Aside0.mk A90
              clear A90
              replace H := Option.bind_eq_some_iff.mp H
              obtain ⟨t103, A100, H⟩ := H
              replace H : (if t102 < t103 then (psalteryref19_Whole_raw.l0 k1 a0 a1 t101 (wrap64 ((wrap64 ((wrap64 ((wrap64 (Int.tdiv a0 t101)) + x9_1)) * t101)) + a1)) (wrap64 (x9_1 + 1))) else (psalteryref19_Whole_raw.l0 k1 a0 a1 t101 x8_1 (wrap64 (x9_1 + 1)))) = some r := H
              have A10 := Aside0.mk A100
              clear A100
              by_cases c11 : t102 < t103
              · rw [if_pos c11] at H
                have c11b0 : decide (t102 < t103) = true := decide_eq_true c11
                clear c11
                have H' := Aside0.mk H
                clear H
                go_wp2_with (first | (go_at_call 73; (with_reducible refine (psalteryref19_far.calls (wrap64 ((wrap64 ((wrap64 ((wrap64 (Int.tdiv a0 t101)) + x9_1)) * t101)) + a1)) a0 t102 _ A9.out).mono ?_); rintro e w' ⟨rfl, ⟨nd, rfl⟩⟩) | (go_at_call 73; (with_reducible refine (psalteryref19_far.calls x8_1 a0 t103 _ A10.out).mono ?_); rintro e w' ⟨rfl, ⟨nd, rfl⟩⟩))
                go_roundg k1
                case measure => have := HK1.out; omega
                case rel => exact ⟨(wrap64 ((wrap64 ((wrap64 ((wrap64 (Int.tdiv a0 t101)) + x9_1)) * t101)) + a1)), (wrap64 (x9_1 + 1)), (by first | rfl | (simp; done) | (simp [*]; done)), (by first | rfl | (simp; done) | (simp [*]; done)), H', ⟨by have := HK1.out; omega⟩, by repeat (first | exact Drawn0.refl _ | apply Drawn0.step)⟩
              · rw [if_neg c11] at H
                have c11b0 : decide (t102 < t103) = false := decide_eq_false c11
                clear c11
                have H' := Aside0.mk H
                clear H
                go_wp2_with (first | (go_at_call 73; (with_reducible refine (psalteryref19_far.calls (wrap64 ((wrap64 ((wrap64 ((wrap64 (Int.tdiv a0 t101)) + x9_1)) * t101)) + a1)) a0 t102 _ A9.out).mono ?_); rintro e w' ⟨rfl, ⟨nd, rfl⟩⟩) | (go_at_call 73; (with_reducible refine (psalteryref19_far.calls x8_1 a0 t103 _ A10.out).mono ?_); rintro e w' ⟨rfl, ⟨nd, rfl⟩⟩))
                go_roundg k1
                case measure => have := HK1.out; omega
                case rel => exact ⟨(x8_1), (wrap64 (x9_1 + 1)), (by first | rfl | (simp; done) | (simp [*]; done)), (by first | rfl | (simp; done) | (simp [*]; done)), H', ⟨by have := HK1.out; omega⟩, by repeat (first | exact Drawn0.refl _ | apply Drawn0.step)⟩
          · rw [if_neg c7] at H
            have c7b0 : decide (0 ≤ (wrap64 ((wrap64 ((wrap64 ((wrap64 (Int.tdiv a0 t101)) + x9_1)) * t101)) + a1))) = false := decide_eq_false c7
            clear c7
            have H' := Aside0.mk H
            clear H
            go_wp2
            go_roundg k1
            case measure => have := HK1.out; omega
            case rel => exact ⟨(x8_1), (wrap64 (x9_1 + 1)), (by first | rfl | (simp; done) | (simp [*]; done)), (by first | rfl | (simp; done) | (simp [*]; done)), H', ⟨by have := HK1.out; omega⟩, by repeat (first | exact Drawn0.refl _ | apply Drawn0.step)⟩
      · rw [if_neg c5] at H
        have c5b0 : decide (x9_1 ≤ 1) = false := decide_eq_false c5
        clear c5
        obtain rfl := Option.some.inj H
        go_wp2
        go_ret
        exact ⟨by first | rfl | (simp; done) | (simp [*]; done), by repeat (first | exact Drawn0.refl _ | apply Drawn0.step)⟩

def psalteryref19_Whole.f (n v bits : Int) : Option Int := if Fair n v bits then some (wholeI n v bits.toNat) else none
theorem far_of (a b : Int) (h0 : -9223372036854775808 ≤ a - b) (h1 : a - b ≤ 9223372036854775807) (h2 : -9223372036854775808 ≤ b - a) (h3 : b - a ≤ 9223372036854775807) : psalteryref19_far.f a b = some (if a > b then a - b else b - a) := by
  unfold psalteryref19_far.f
  by_cases h : a > b
  · rw [if_pos h, if_pos h, wrap64_of h0 h1]
  · rw [if_neg h, if_neg h, wrap64_of h2 h3]
/-- One of the three: m is what is tried, best what is the best so far. -/
theorem psalteryref19_Whole.round (n v r best j m : Int) (k : Nat) (hr : ¬ r = 0) (hj : j ≤ 1) (hn : 0 ≤ n ∧ n ≤ 1099511627776) (hm : wrap64 ((wrap64 ((wrap64 ((wrap64 (Int.tdiv n r)) + j)) * r)) + v) = m) (hm0 : -8589934592 ≤ m) (hm1 : m ≤ 2199023255552) (hb0 : -1 ≤ best) (hb1 : best ≤ 2199023255552) (hj1 : -1 ≤ j) :
    psalteryref19_Whole_raw.l0 (k + 1) n v r best j = psalteryref19_Whole_raw.l0 k n v r (if m ≥ 0 ∧ (best < 0 ∨ (if m > n then m - n else n - m) < (if best > n then best - n else n - best)) then m else best) (j + 1) := by
  have ej : wrap64 (j + 1) = j + 1 := wrap64_of (by omega) (by omega)
  simp only [psalteryref19_Whole_raw.l0]
  rw [if_pos hj, if_neg hr]
  simp only [hm, ej]
  by_cases h1 : m ≥ 0
  · rw [if_pos h1]
    by_cases h2 : best < 0
    · rw [if_pos h2, if_pos ⟨h1, .inl h2⟩]
    · rw [if_neg h2, far_of m n (by omega) (by omega) (by omega) (by omega), Option.bind_some, far_of best n (by omega) (by omega) (by omega) (by omega), Option.bind_some]
      by_cases h3 : (if m > n then m - n else n - m) < (if best > n then best - n else n - best)
      · rw [if_pos h3, if_pos ⟨h1, .inr h3⟩]
      · rw [if_neg h3, if_neg (fun h => h.2.elim h2 h3)]
  · rw [if_neg h1, if_neg (fun h => h1 h.1)]
/-- What is the best of two. -/
theorem pick_best (n best m : Int) : ∃ b, (if m ≥ 0 ∧ (best < 0 ∨ (if m > n then m - n else n - m) < (if best > n then best - n else n - best)) then m else best) = b ∧
    ((b = m ∧ m ≥ 0 ∧ (best < 0 ∨ (m > n ∧ best > n ∧ m < best) ∨ (m > n ∧ best ≤ n ∧ m - n < n - best) ∨ (m ≤ n ∧ best > n ∧ n - m < best - n) ∨ (m ≤ n ∧ best ≤ n ∧ m > best))) ∨
     (b = best ∧ (m < 0 ∨ (best ≥ 0 ∧ ((m > n ∧ best > n ∧ m ≥ best) ∨ (m > n ∧ best ≤ n ∧ m - n ≥ n - best) ∨ (m ≤ n ∧ best > n ∧ n - m ≥ best - n) ∨ (m ≤ n ∧ best ≤ n ∧ m ≤ best)))))) := by
  refine ⟨_, rfl, ?_⟩
  by_cases h1 : m > n
  · rw [if_pos h1]
    by_cases h2 : best > n
    · rw [if_pos h2]; split <;> omega
    · rw [if_neg h2]; split <;> omega
  · rw [if_neg h1]
    by_cases h2 : best > n
    · rw [if_pos h2]; split <;> omega
    · rw [if_neg h2]; split <;> omega
theorem psalteryref19_Whole.of {n v bits r : Int} (h : psalteryref19_Whole.f n v bits = some r) : ∃ k, psalteryref19_Whole_raw.f k n v bits = some r := by
  unfold psalteryref19_Whole.f at h
  split at h
  case isFalse => cases h
  case isTrue hf =>
    injection h with h
    obtain ⟨h0, h1, h2, h3, h4, h5⟩ := hf
    refine ⟨4, ?_⟩
    obtain ⟨q, hq, hq1, hq2⟩ := two_pow_half bits.toNat (by omega) (by omega)
    obtain ⟨d1, d2, d3, d4⟩ := div_parts n (2 * q) h0 (by omega)
    unfold psalteryref19_Whole_raw.f
    rw [psalteryref19_power.f, if_pos (by omega), Option.bind_some, hq]
    have hx : ∀ j : Int, -1 ≤ j → j ≤ 1 → wrap64 ((wrap64 ((wrap64 ((wrap64 (Int.tdiv n (2 * q))) + j)) * (2 * q))) + v) = n / (2 * q) * (2 * q) + j * (2 * q) + v := by
      intro j hj0 hj1
      have hd0 : 0 ≤ n / (2 * q) := Int.ediv_nonneg h0 (by omega)
      have hd1 : n / (2 * q) ≤ n := Int.ediv_le_self _ h0
      have e1 : wrap64 (Int.tdiv n (2 * q)) = n / (2 * q) := by rw [Int.tdiv_eq_ediv_of_nonneg h0, wrap64_of (by omega) (by omega)]
      have e2 : wrap64 (n / (2 * q) + j) = n / (2 * q) + j := wrap64_of (by omega) (by omega)
      have hjr : -(2 * q) ≤ j * (2 * q) ∧ j * (2 * q) ≤ 2 * q := by
        rcases (by omega : j = -1 ∨ j = 0 ∨ j = 1) with rfl | rfl | rfl <;> omega
      rw [e1, e2, Int.add_mul]
      generalize n / (2 * q) * (2 * q) = p at d1 d2 d3 d4 ⊢
      generalize j * (2 * q) = z at hjr ⊢
      rw [wrap64_of (x := p + z) (by omega) (by omega), wrap64_of (by omega) (by omega)]
    have hx0 := hx (-1) (by omega) (by omega)
    have hx1 := hx 0 (by omega) (by omega)
    have hx2 := hx 1 (by omega) (by omega)
    rw [← h]
    unfold wholeI
    rw [hq] at h5 ⊢
    clear hx h
    generalize n / (2 * q) * (2 * q) = p at d1 d2 d3 d4 hx0 hx1 hx2 ⊢
    rw [psalteryref19_Whole.round n v (2 * q) (-1) (-1) (p + -1 * (2 * q) + v) 3 (by omega) (by omega) ⟨h0, h1⟩ hx0 (by omega) (by omega) (by omega) (by omega) (by omega)]
    obtain ⟨b1, eb1, f1⟩ := pick_best n (-1) (p + -1 * (2 * q) + v)
    rw [eb1]
    clear eb1
    rw [psalteryref19_Whole.round n v (2 * q) b1 (-1 + 1) (p + 0 * (2 * q) + v) 2 (by omega) (by omega) ⟨h0, h1⟩ hx1 (by omega) (by omega) (by omega) (by omega) (by omega)]
    obtain ⟨b2, eb2, f2⟩ := pick_best n b1 (p + 0 * (2 * q) + v)
    rw [eb2]
    clear eb2
    rw [psalteryref19_Whole.round n v (2 * q) b2 (-1 + 1 + 1) (p + 1 * (2 * q) + v) 1 (by omega) (by omega) ⟨h0, h1⟩ hx2 (by omega) (by omega) (by omega) (by omega) (by omega)]
    obtain ⟨b3, eb3, f3⟩ := pick_best n b2 (p + 1 * (2 * q) + v)
    rw [eb3]
    clear eb3 hx0 hx1 hx2
    simp only [psalteryref19_Whole_raw.l0]
    rw [if_neg (by omega)]
    refine congrArg some ?_
    have e4 : (2 * q) / 2 = q := by omega
    rw [e4]
    clear e4
    split
    · omega
    · split
      · omega
      · omega
theorem psalteryref19_Whole.calls (a0 : Int) (a1 : Int) (a2 : Int) (r : Int) (w : World) (h : psalteryref19_Whole.f a0 a1 a2 = some r) :
    Calls Try.prog 53 #[.int .i64 a0, .int .i64 a1, .int .i64 a2] w fun e w' => e = .returned (.int .i64 r) ∧ Drawn0 w w' := by
  obtain ⟨k, hk⟩ := psalteryref19_Whole.of h
  exact psalteryref19_Whole_raw.calls k a0 a1 a2 r w hk

end Go.Proofs.Yteoclecadpapfaa.G
