/- What a call of psaltery/dgram.get does, told by a plain Lean function of its arguments. Written by a program for this claim. -/
import Derived.Test.YteoclecadpapfaaG0
import Derived.Test.YteoclecadpapfaaM4
namespace Go.Proofs.Yteoclecadpapfaa.G
open Go.RowKit Go.Proofs.YteoclecadpapfaaW.PrintWords Go.Proofs.YteoclecadpapfaaW.PrintLast Go.Proofs.YteoclecadpapfaaW.PrintMore
attribute [local go_sem] max2_int min2_int max_two min_two max_three min_three max_four min_four
set_option linter.unusedVariables false
set_option linter.unusedSimpArgs false

/-! ### dgram_get_raw: function 70 -/
def dgram_get_raw.l0 : Nat → Int → List Int → Int → Int → Option (Int)
  | 0, _, _, _, _ => none
  | k + 1, x3, x6, x7, x8 => if x8 < x7 then (if 0 ≤ x8 then (if x8 < (x6.length : Int) then (if 0 ≤ (wrap64 (8 * x8)) then (dgram_get_raw.l0 k (Go.bits .or .i64 x3 (shl .i64 (wrap64 (rd x6 x8)) (wrap64 (8 * x8)))) x6 x7 (wrap64 (x8 + 1))) else (none)) else (none)) else (none)) else (some x3)
def dgram_get_raw.f (k : Nat) (l0 : List Int) : Option (Int) := dgram_get_raw.l0 k 0 l0 (l0.length : Int) 0
theorem dgram_get_raw.mono_l : ∀ k, (∀ y0 y1 y2 y3, LeO (dgram_get_raw.l0 k y0 y1 y2 y3) (dgram_get_raw.l0 (k + 1) y0 y1 y2 y3))
  | 0 => fun _ _ _ _ r h => by simp [dgram_get_raw.l0] at h
  | k + 1 => by
    have ih0 := dgram_get_raw.mono_l k
    · intro y0 y1 y2 y3
      unfold dgram_get_raw.l0
      repeat' first
      | (with_reducible exact ih0 _ _ _ _)
      | (with_reducible exact LeO.refl _)
      | (with_reducible exact LeO.none _)
      | (with_reducible refine LeO.ite ?_ ?_)
      | (with_reducible refine LeO.bind ?_ (fun _ => ?_))
      | exact ih0 _ _ _ _
      | exact LeO.none _
      | refine LeO.ite ?_ ?_
      | refine LeO.bind ?_ (fun _ => ?_)
theorem dgram_get_raw.mono : ∀ a0 k, LeO (dgram_get_raw.f k a0) (dgram_get_raw.f (k + 1) a0) := by
  intro a0 k
  have ih0 := dgram_get_raw.mono_l k
  unfold dgram_get_raw.f
  repeat' first
      | (with_reducible exact ih0 _ _ _ _)
      | (with_reducible exact LeO.refl _)
      | (with_reducible exact LeO.none _)
      | (with_reducible refine LeO.ite ?_ ?_)
      | (with_reducible refine LeO.bind ?_ (fun _ => ?_))
      | exact ih0 _ _ _ _
      | exact LeO.none _
      | refine LeO.ite ?_ ?_
      | refine LeO.bind ?_ (fun _ => ?_)
set_option maxHeartbeats 8000000 in
set_option maxRecDepth 100000 in
theorem dgram_get_raw.calls (k : Nat) (A0 : Option Addr) (c0 : Nat) (l0 : List Int) (r : Int) (w : World) (hr0 : Kd.C (Kd.int .u8) w A0 l0.length l0) (hc0 : l0.length ≤ c0) (h : dgram_get_raw.f k l0 = some r) :
    Calls Try.prog 70 #[.slice A0 l0.length c0] w fun e w' => e = .returned (.int .i64 r) ∧ Drawn0 w w' := by
  have HR0 := Aside0.mk hr0
  have HC0 := Aside0.mk hc0
  clear hr0 hc0
  have H : (dgram_get_raw.l0 k 0 l0 (l0.length : Int) 0) = some r := h
  clear h
  have H' := Aside0.mk H
  clear H
  go_enter Try.func70, Try.ntmps70
  go_wp2
  go_loopg [3, 8] k (fun kq v3 v8 w' => ∃ (x3_1 : Int) (x8_1 : Int), v3 = .int .i64 x3_1 ∧ v8 = .int .i64 x8_1 ∧ Aside0 (dgram_get_raw.l0 kq x3_1 l0 (l0.length : Int) x8_1 = some r) ∧ Aside0 (kq ≤ k) ∧ Drawn0 w w')
  case atStart => exact ⟨(0), (0), (by first | rfl | (simp; done) | (simp [*]; done)), (by first | rfl | (simp; done) | (simp [*]; done)), H', ⟨Nat.le_refl _⟩, by repeat (first | exact Drawn0.refl _ | apply Drawn0.step)⟩
  case round =>
    clear H'
    obtain ⟨x3_1, x8_1, rfl, rfl, HA, HK1, ⟨m1, rfl⟩⟩ := hrel
    cases gk with
    | zero => exact absurd HA.out (by simp [dgram_get_raw.l0])
    | succ k1 =>
      have H := HA.out
      clear HA
      simp only [dgram_get_raw.l0] at H
      by_cases c2 : x8_1 < (l0.length : Int)
      · rw [if_pos c2] at H
        have c2b0 : decide (x8_1 < (l0.length : Int)) = true := decide_eq_true c2
        clear c2
        by_cases c3 : 0 ≤ x8_1
        · rw [if_pos c3] at H
          have c3b0 : decide (0 ≤ x8_1) = true := decide_eq_true c3
          clear c3
          by_cases c4 : x8_1 < (l0.length : Int)
          · rw [if_pos c4] at H
            have c4b0 : decide (x8_1 < (l0.length : Int)) = true := decide_eq_true c4
            clear c4
            obtain ⟨ji5, hji5⟩ : ∃ j_ : Int, (wrap64 (8 * x8_1)) = j_ := ⟨_, rfl⟩
            replace H : (if 0 ≤ (ji5) then (dgram_get_raw.l0 k1 (Go.bits .or .i64 x3_1 (shl .i64 (wrap64 (rd l0 x8_1)) (ji5))) l0 (l0.length : Int) (wrap64 (x8_1 + 1))) else (none)) = some r := by first | (rw [hji5] at H; exact H) | (simp only [hji5] at H ⊢; exact H)
            have hji5w : (IntKind.i64.wrap (8 * x8_1)) = ji5 := (i64_w _).trans hji5
            by_cases c6 : 0 ≤ (ji5)
            · rw [if_pos c6] at H
              have c6b0 := eq_true c6
              have c6b1 : decide (0 ≤ (ji5)) = true := decide_eq_true c6
              clear c6
              obtain ⟨ji7, hji7⟩ : ∃ j_ : Int, (shl .i64 (wrap64 (rd l0 x8_1)) (ji5)) = j_ := ⟨_, rfl⟩
              replace H : (dgram_get_raw.l0 k1 (Go.bits .or .i64 x3_1 (ji7)) l0 (l0.length : Int) (wrap64 (x8_1 + 1))) = some r := by first | (rw [hji7] at H; exact H) | (simp only [hji7] at H ⊢; exact H)
              have hji7_ : (IntKind.i64.wrap ((wrap64 (rd l0 x8_1)) * 2 ^ min (ji5).toNat 64)) = ji7 := hji7
              have hji7z : (ji5) ≤ 64 → (IntKind.i64.wrap ((wrap64 (rd l0 x8_1)) * 2 ^ (ji5).toNat)) = ji7 := shl_small hji7
              have hji7y : (wrap64 ((wrap64 (rd l0 x8_1)) * 2 ^ min (ji5).toNat 64)) = ji7 := (i64_w _).symm.trans hji7_
              have hji7x : (ji5) ≤ 64 → (wrap64 ((wrap64 (rd l0 x8_1)) * 2 ^ (ji5).toNat)) = ji7 := fun h_ => (i64_w _).symm.trans (hji7z h_)
              have H' := Aside0.mk H
              clear H
              have p101 : 0 ≤ (x8_1 : Int) := of_decide_eq_true (by first | (with_reducible assumption) | assumption)
              have q101 : x8_1 < (l0.length : Int) := of_decide_eq_true (by first | (with_reducible assumption) | assumption)
              obtain ⟨ad101, e101, hx101_0⟩ := Kd.at_int HR0.out x8_1 p101 q101
              cases e101
              replace p101 := eq_true p101
              replace q101 := eq_true q101
              go_wp2
              go_roundg k1
              case measure => have := HK1.out; omega
              case rel => exact ⟨(Go.bits .or .i64 x3_1 (ji7)), (wrap64 (x8_1 + 1)), (by first | rfl | (simp; done) | (simp only [← hji7] <;> (first | rfl | simp)) | (simp [*]; done)), (by first | rfl | (simp; done) | (simp [*]; done)), H', ⟨by have := HK1.out; omega⟩, by repeat (first | exact Drawn0.refl _ | apply Drawn0.step)⟩
            · rw [if_neg c6] at H
              exact absurd H (by simp)
          · rw [if_neg c4] at H
            exact absurd H (by simp)
        · rw [if_neg c3] at H
          exact absurd H (by simp)
      · rw [if_neg c2] at H
        have c2b0 : decide (x8_1 < (l0.length : Int)) = false := decide_eq_false c2
        clear c2
        obtain rfl := Option.some.inj H
        go_wp2
        go_ret
        exact ⟨by first | rfl | (simp; done) | (simp [*]; done), by repeat (first | exact Drawn0.refl _ | apply Drawn0.step)⟩

def dgram_get.f (b : List Int) : Option Int := if okB b ∧ b.length ≤ 7 then some (valI b) else none
theorem dgram_get.of {b : List Int} {r : Int} (h : dgram_get.f b = some r) : ∃ k, dgram_get_raw.f k b = some r := by
  unfold dgram_get.f at h
  split at h
  case isFalse => cases h
  case isTrue h0 =>
    obtain ⟨hb, hn⟩ := h0
    injection h with h
    subst h
    refine Ev.rounds ?_
    unfold dgram_get_raw.f
    have go : ∀ j : Nat, j ≤ b.length → Ev (fun k => dgram_get_raw.l0 k (valI (b.take j)) b (b.length : Int) (j : Int)) (valI b) := by
      intro j hj
      induction hd : b.length - j generalizing j with
      | zero =>
        obtain rfl : j = b.length := by omega
        rw [List.take_length]
        refine Ev.step (f := fun _ => some (valI b)) (fun k => ?_) (Ev.now _)
        simp only [dgram_get_raw.l0]
        rw [if_neg (by omega)]
      | succ d ih =>
        refine Ev.step (f := fun k => dgram_get_raw.l0 k (valI (b.take (j + 1))) b (b.length : Int) ((j + 1 : Nat) : Int)) (fun k => ?_) (ih (j + 1) (by omega) (by omega))
        have hx := rd_mem hb (j : Int) (by omega)
        have h1 : (j : Int) < (b.length : Int) := by omega
        have h2 : (0 : Int) ≤ (j : Int) := by omega
        have h3 : 0 ≤ wrap64 (8 * (j : Int)) := by rw [wrap64_of (by omega) (by omega)]; omega
        have h4 : wrap64 ((j : Int) + 1) = ((j + 1 : Nat) : Int) := by unfold wrap64; omega
        have hlt := valI_lt (okB_take hb j)
        rw [List.length_take, Nat.min_eq_left (by omega)] at hlt
        have ho := or_byte (valI (b.take j)) (rd b (j : Int)) j (by omega) (valI_nonneg (okB_take hb j)) hlt hx.1 hx.2
        simp only [dgram_get_raw.l0]
        rw [if_pos h1, if_pos h2, if_pos h1, if_pos h3, h4, ho, valI_take b j (by omega)]
    exact go 0 (by omega)
theorem dgram_get.calls (A0 : Option Addr) (c0 : Nat) (l0 : List Int) (r : Int) (w : World) (hr0 : Kd.C (Kd.int .u8) w A0 l0.length l0) (hc0 : l0.length ≤ c0) (h : dgram_get.f l0 = some r) :
    Calls Try.prog 70 #[.slice A0 l0.length c0] w fun e w' => e = .returned (.int .i64 r) ∧ Drawn0 w w' := by
  obtain ⟨k, hk⟩ := dgram_get.of h
  exact dgram_get_raw.calls k A0 c0 l0 r w hr0 hc0 hk

end Go.Proofs.Yteoclecadpapfaa.G
