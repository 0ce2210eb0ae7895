/- What a call of psaltery/psalteryref02.Add does, told by a plain Lean function of its arguments. Written by a program for this claim. -/
import Derived.Test.YteoclecadpapfaaG0
import Derived.Test.YteoclecadpapfaaM2
namespace Go.Proofs.Yteoclecadpapfaa.G
open Go.RowKit Go.Proofs.YteoclecadpapfaaW.PrintWords Go.Proofs.YteoclecadpapfaaW.PrintLast Go.Proofs.YteoclecadpapfaaW.PrintMore
attribute [local go_sem] max2_int min2_int max_two min_two max_three min_three max_four min_four
set_option linter.unusedVariables false
set_option linter.unusedSimpArgs false

/-! ### psalteryref02_Add_raw: function 29 -/
def psalteryref02_Add_raw.l0 : Nat → List Int → Int → List Int → Int → Option (Int)
  | 0, _, _, _, _ => none
  | k + 1, x0, x1, x2, x7 => if x7 < (x2.length : Int) then (if 0 ≤ x7 then (if 0 ≤ (wrap64 (Go.bits .xor .u32 (Int.tmod x1 256) ((rd x2 x7) % 4294967296))) then (if (wrap64 (Go.bits .xor .u32 (Int.tmod x1 256) ((rd x2 x7) % 4294967296))) < (x0.length : Int) then (psalteryref02_Add_raw.l0 k x0 (Go.bits .xor .u32 ((Int.tdiv x1 256) % 4294967296) (rd x0 (wrap64 (Go.bits .xor .u32 (Int.tmod x1 256) ((rd x2 x7) % 4294967296))))) x2 (wrap64 (x7 + 1))) else (none)) else (none)) else (none)) else (some x1)
def psalteryref02_Add_raw.f (k : Nat) (l0 : List Int) (a1 : Int) (l2 : List Int) : Option (Int) := psalteryref02_Add_raw.l0 k l0 a1 l2 0
set_option maxHeartbeats 8000000 in
set_option maxRecDepth 100000 in
theorem psalteryref02_Add_raw.calls (k : Nat) (A0 : Option Addr) (c0 : Nat) (l0 : List Int) (a1 : Int) (A2 : Option Addr) (c2 : Nat) (l2 : List Int) (r : Int) (w : World) (hr0 : Kd.C (Kd.int .u32) w A0 l0.length l0) (hc0 : l0.length ≤ c0) (hr2 : Kd.C (Kd.int .u8) w A2 l2.length l2) (hc2 : l2.length ≤ c2) (h : psalteryref02_Add_raw.f k l0 a1 l2 = some r) :
    Calls Try.prog 29 #[.slice A0 l0.length c0, .int .u32 a1, .slice A2 l2.length c2] w fun e w' => e = .returned (.int .u32 r) ∧ Drawn0 w w' := by
  have HR0 := Aside0.mk hr0
  have HC0 := Aside0.mk hc0
  clear hr0 hc0
  have HR2 := Aside0.mk hr2
  have HC2 := Aside0.mk hc2
  clear hr2 hc2
  have H : (psalteryref02_Add_raw.l0 k l0 a1 l2 0) = some r := h
  clear h
  have H' := Aside0.mk H
  clear H
  go_enter Try.func29, Try.ntmps29
  go_wp2
  go_loopg [1, 7] k (fun kq v1 v7 w' => ∃ (x1_1 : Int) (x7_1 : Int), v1 = .int .u32 x1_1 ∧ v7 = .int .i64 x7_1 ∧ Aside0 (psalteryref02_Add_raw.l0 kq l0 x1_1 l2 x7_1 = some r) ∧ Aside0 (kq ≤ k) ∧ Drawn0 w w')
  case atStart => exact ⟨(a1), (0), (by first | rfl | (simp; done) | (simp [*]; done)), (by first | rfl | (simp; done) | (simp [*]; done)), H', ⟨Nat.le_refl _⟩, by repeat (first | exact Drawn0.refl _ | apply Drawn0.step)⟩
  case round =>
    clear H'
    try clear c2
    try clear p2
    obtain ⟨x1_1, x7_1, rfl, rfl, HA, HK1, ⟨m1, rfl⟩⟩ := hrel
    cases gk with
    | zero => exact absurd HA.out (by simp [psalteryref02_Add_raw.l0])
    | succ k1 =>
      have H := HA.out
      clear HA
      simp only [psalteryref02_Add_raw.l0] at H
      by_cases c4 : x7_1 < (l2.length : Int)
      · rw [if_pos c4] at H
        have c4b0 : decide (x7_1 < (l2.length : Int)) = true := decide_eq_true c4
        clear c4
        by_cases c5 : 0 ≤ x7_1
        · rw [if_pos c5] at H
          have c5b0 : decide (0 ≤ x7_1) = true := decide_eq_true c5
          clear c5
          obtain ⟨ji6, hji6⟩ : ∃ j_ : Int, (wrap64 (Go.bits .xor .u32 (Int.tmod x1_1 256) ((rd l2 x7_1) % 4294967296))) = j_ := ⟨_, rfl⟩
          replace H : (if 0 ≤ (ji6) then (if (ji6) < (l0.length : Int) then (psalteryref02_Add_raw.l0 k1 l0 (Go.bits .xor .u32 ((Int.tdiv x1_1 256) % 4294967296) (rd l0 (ji6))) l2 (wrap64 (x7_1 + 1))) else (none)) else (none)) = some r := by first | (rw [hji6] at H; exact H) | (simp only [hji6] at H ⊢; exact H)
          have hji6w : (IntKind.i64.wrap (Go.bits .xor .u32 (Int.tmod x1_1 256) ((rd l2 x7_1) % 4294967296))) = ji6 := (i64_w _).trans hji6
          by_cases c7 : 0 ≤ (ji6)
          · rw [if_pos c7] at H
            have c7b0 : decide (0 ≤ (ji6)) = true := decide_eq_true c7
            clear c7
            by_cases c8 : (ji6) < (l0.length : Int)
            · rw [if_pos c8] at H
              have c8b0 : decide ((ji6) < (l0.length : Int)) = true := decide_eq_true c8
              clear c8
              have H' := Aside0.mk H
              clear H
              have p101 : 0 ≤ (x7_1 : Int) := of_decide_eq_true (by first | (with_reducible assumption) | assumption)
              have q101 : x7_1 < (l2.length : Int) := of_decide_eq_true (by first | (with_reducible assumption) | assumption)
              obtain ⟨ad101, e101, hx101_0⟩ := Kd.at_int HR2.out x7_1 p101 q101
              cases e101
              replace p101 := eq_true p101
              replace q101 := eq_true q101
              have p102 : 0 ≤ ((ji6) : Int) := of_decide_eq_true (by first | (with_reducible assumption) | assumption)
              have q102 : (ji6) < (l0.length : Int) := of_decide_eq_true (by first | (with_reducible assumption) | assumption)
              obtain ⟨ad102, e102, hx102_0⟩ := Kd.at_int HR0.out (ji6) p102 q102
              cases e102
              replace p102 := eq_true p102
              replace q102 := eq_true q102
              go_wp2
              go_roundg k1
              case measure => have := HK1.out; omega
              case rel => exact ⟨(Go.bits .xor .u32 ((Int.tdiv x1_1 256) % 4294967296) (rd l0 (ji6))), (wrap64 (x7_1 + 1)), (by first | rfl | (simp; done) | (simp only [← hji6] <;> (first | rfl | simp)) | (simp [*]; done)), (by first | rfl | (simp; done) | (simp [*]; done)), H', ⟨by have := HK1.out; omega⟩, by repeat (first | exact Drawn0.refl _ | apply Drawn0.step)⟩
            · rw [if_neg c8] at H
              exact absurd H (by simp)
          · rw [if_neg c7] at H
            exact absurd H (by simp)
        · rw [if_neg c5] at H
          exact absurd H (by simp)
      · rw [if_neg c4] at H
        have c4b0 : decide (x7_1 < (l2.length : Int)) = false := decide_eq_false c4
        clear c4
        obtain rfl := Option.some.inj H
        go_wp2
        go_ret
        exact ⟨by first | rfl | (simp; done) | (simp [*]; done), by repeat (first | exact Drawn0.refl _ | apply Drawn0.step)⟩

def psalteryref02_Add.f (t : List Int) (c : Int) (b : List Int) : Option Int := if t.length = 256 ∧ okB b ∧ (0 ≤ c ∧ c < 4294967296) ∧ b.length ≤ 140737488351232 then some (addI t c b) else none
/-- One byte, as the document's text has it. -/
theorem refStep (t : List Int) (c x : Nat) (hl : t.length = 256) (hc : c < 4294967296) (hx : x < 256) :
    0 ≤ (wrap64 (Go.bits .xor .u32 (Int.tmod (c : Int) 256) ((x : Int) % 4294967296))) ∧ (wrap64 (Go.bits .xor .u32 (Int.tmod (c : Int) 256) ((x : Int) % 4294967296))) < (t.length : Int) ∧
    (Go.bits .xor .u32 ((Int.tdiv (c : Int) 256) % 4294967296) (rd t (wrap64 (Go.bits .xor .u32 (Int.tmod (c : Int) 256) ((x : Int) % 4294967296))))) = addS t c x := by
  have e1 : Int.tmod (c : Int) 256 = ((c % 256 : Nat) : Int) := by rw [Int.tmod_eq_emod_of_nonneg (by omega)]; omega
  have e2 : (x : Int) % 4294967296 = (x : Int) := by omega
  have e3 : Int.tdiv (c : Int) 256 % 4294967296 = (c : Int) / 256 := by rw [Int.tdiv_eq_ediv_of_nonneg (by omega)]; omega
  have hi : c % 256 ^^^ x < 256 := Nat.xor_lt_two_pow (n := 8) (by omega) hx
  have e4 : wrap64 (((c % 256 ^^^ x : Nat)) : Int) = ((c % 256 ^^^ x : Nat) : Int) := by unfold wrap64; omega
  rw [e1, e2, e3, xor_u32 _ _ (by omega) (by omega), e4]
  refine ⟨by omega, by omega, ?_⟩
  unfold addS
  rw [show (c : Int) % 256 = ((c % 256 : Nat) : Int) by omega, xor_u8 _ _ (by omega) hx]
theorem psalteryref02_Add.of {t : List Int} {c : Int} {b : List Int} {r : Int} (h : psalteryref02_Add.f t c b = some r) : ∃ k, psalteryref02_Add_raw.f k t c b = some r := by
  unfold psalteryref02_Add.f at h
  split at h
  case isFalse => cases h
  case isTrue h0 =>
    obtain ⟨hl, hb, hc, hn⟩ := h0
    injection h with h
    subst h
    refine Ev.rounds ?_
    unfold psalteryref02_Add_raw.f
    have go : ∀ j : Nat, j ≤ b.length → Ev (fun k => psalteryref02_Add_raw.l0 k t (addI t c (b.take j)) b (j : Int)) (addI t c b) := by
      intro j hj
      induction hd : b.length - j generalizing j with
      | zero =>
        obtain rfl : j = b.length := by omega
        rw [List.take_length]
        refine Ev.step (f := fun _ => some (addI t c b)) (fun k => ?_) (Ev.now _)
        simp only [psalteryref02_Add_raw.l0]
        rw [if_neg (by omega)]
      | succ d ih =>
        refine Ev.step (f := fun k => psalteryref02_Add_raw.l0 k t (addI t c (b.take (j + 1))) b ((j + 1 : Nat) : Int)) (fun k => ?_) (ih (j + 1) (by omega) (by omega))
        have hx := rd_mem hb (j : Int) (by omega)
        have hr := addI_range t (b.take j) c hc
        rw [addI_take j c b (by omega)]
        generalize addI t c (b.take j) = q at hr ⊢
        generalize hxe : rd b (j : Int) = x at hx ⊢
        obtain ⟨q, rfl⟩ := Int.eq_ofNat_of_zero_le hr.1
        obtain ⟨x, rfl⟩ := Int.eq_ofNat_of_zero_le hx.1
        have h4 : wrap64 ((j : Int) + 1) = ((j + 1 : Nat) : Int) := by unfold wrap64; omega
        have h5 : (j : Int) < (b.length : Int) := by omega
        have h6 : (0 : Int) ≤ (j : Int) := by omega
        have hq : q < 4294967296 := by omega
        have hx' : x < 256 := by omega
        simp only [psalteryref02_Add_raw.l0]
        rw [if_pos h5, if_pos h6, h4, hxe]
        obtain ⟨h1, h2, h3⟩ := refStep t q x hl hq hx'
        rw [if_pos h1, if_pos h2, h3]
    exact go 0 (by omega)
theorem psalteryref02_Add.calls (A0 : Option Addr) (c0 : Nat) (l0 : List Int) (a1 : Int) (A2 : Option Addr) (c2 : Nat) (l2 : List Int) (r : Int) (w : World) (hr0 : Kd.C (Kd.int .u32) w A0 l0.length l0) (hc0 : l0.length ≤ c0) (hr2 : Kd.C (Kd.int .u8) w A2 l2.length l2) (hc2 : l2.length ≤ c2) (h : psalteryref02_Add.f l0 a1 l2 = some r) :
    Calls Try.prog 29 #[.slice A0 l0.length c0, .int .u32 a1, .slice A2 l2.length c2] w fun e w' => e = .returned (.int .u32 r) ∧ Drawn0 w w' := by
  obtain ⟨k, hk⟩ := psalteryref02_Add.of h
  exact psalteryref02_Add_raw.calls k A0 c0 l0 a1 A2 c2 l2 r w hr0 hc0 hr2 hc2 hk

end Go.Proofs.Yteoclecadpapfaa.G
