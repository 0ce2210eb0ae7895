/- What a call of psaltery/psalteryref02.Add does, told by a plain Lean function of its arguments. Written by a program for this claim. -/
import Derived.Test.YteoclecadpapfaaG0
import Derived.Test.YteoclecadpapfaaGR29
import Derived.Test.YteoclecadpapfaaM2
namespace Go.Proofs.Yteoclecadpapfaa.G
open Go.RowKit Go.Proofs.YteoclecadpapfaaW.PrintWords Go.Proofs.YteoclecadpapfaaW.PrintLast Go.Proofs.YteoclecadpapfaaW.PrintMore
attribute [local go_sem] max2_int min2_int max_two min_two max_three min_three max_four min_four
set_option linter.unusedVariables false
set_option linter.unusedSimpArgs false

def psalteryref02_Add.f (t : List Int) (c : Int) (b : List Int) : Option Int := if t.length = 256 ∧ okB b ∧ (0 ≤ c ∧ c < 4294967296) ∧ b.length ≤ 140737488351232 then some (addI t c b) else none
/-- One byte, as the document's text has it. -/
theorem refStep (t : List Int) (c x : Nat) (hl : t.length = 256) (hc : c < 4294967296) (hx : x < 256) :
    0 ≤ (wrap64 (Go.bits .xor .u32 (Int.tmod (c : Int) 256) ((x : Int) % 4294967296))) ∧ (wrap64 (Go.bits .xor .u32 (Int.tmod (c : Int) 256) ((x : Int) % 4294967296))) < (t.length : Int) ∧
    (Go.bits .xor .u32 ((Int.tdiv (c : Int) 256) % 4294967296) (rd t (wrap64 (Go.bits .xor .u32 (Int.tmod (c : Int) 256) ((x : Int) % 4294967296))))) = addS t c x := by
  have e1 : Int.tmod (c : Int) 256 = ((c % 256 : Nat) : Int) := by rw [Int.tmod_eq_emod_of_nonneg (by omega)]; omega
  have e2 : (x : Int) % 4294967296 = (x : Int) := by omega
  have e3 : Int.tdiv (c : Int) 256 % 4294967296 = (c : Int) / 256 := by rw [Int.tdiv_eq_ediv_of_nonneg (by omega)]; omega
  have hi : c % 256 ^^^ x < 256 := Nat.xor_lt_two_pow (n := 8) (by omega) hx
  have e4 : wrap64 (((c % 256 ^^^ x : Nat)) : Int) = ((c % 256 ^^^ x : Nat) : Int) := by unfold wrap64; omega
  rw [e1, e2, e3, xor_u32 _ _ (by omega) (by omega), e4]
  refine ⟨by omega, by omega, ?_⟩
  unfold addS
  rw [show (c : Int) % 256 = ((c % 256 : Nat) : Int) by omega, xor_u8 _ _ (by omega) hx]
theorem psalteryref02_Add.of {t : List Int} {c : Int} {b : List Int} {r : Int} (h : psalteryref02_Add.f t c b = some r) : ∃ k, psalteryref02_Add_raw.f k t c b = some r := by
  unfold psalteryref02_Add.f at h
  split at h
  case isFalse => cases h
  case isTrue h0 =>
    obtain ⟨hl, hb, hc, hn⟩ := h0
    injection h with h
    subst h
    refine Ev.rounds ?_
    unfold psalteryref02_Add_raw.f
    have go : ∀ j : Nat, j ≤ b.length → Ev (fun k => psalteryref02_Add_raw.l0 k t (addI t c (b.take j)) b (j : Int)) (addI t c b) := by
      intro j hj
      induction hd : b.length - j generalizing j with
      | zero =>
        obtain rfl : j = b.length := by omega
        rw [List.take_length]
        refine Ev.step (f := fun _ => some (addI t c b)) (fun k => ?_) (Ev.now _)
        simp only [psalteryref02_Add_raw.l0]
        rw [if_neg (by omega)]
      | succ d ih =>
        refine Ev.step (f := fun k => psalteryref02_Add_raw.l0 k t (addI t c (b.take (j + 1))) b ((j + 1 : Nat) : Int)) (fun k => ?_) (ih (j + 1) (by omega) (by omega))
        have hx := rd_mem hb (j : Int) (by omega)
        have hr := addI_range t (b.take j) c hc
        rw [addI_take j c b (by omega)]
        generalize addI t c (b.take j) = q at hr ⊢
        generalize hxe : rd b (j : Int) = x at hx ⊢
        obtain ⟨q, rfl⟩ := Int.eq_ofNat_of_zero_le hr.1
        obtain ⟨x, rfl⟩ := Int.eq_ofNat_of_zero_le hx.1
        have h4 : wrap64 ((j : Int) + 1) = ((j + 1 : Nat) : Int) := by unfold wrap64; omega
        have h5 : (j : Int) < (b.length : Int) := by omega
        have h6 : (0 : Int) ≤ (j : Int) := by omega
        have hq : q < 4294967296 := by omega
        have hx' : x < 256 := by omega
        simp only [psalteryref02_Add_raw.l0]
        rw [if_pos h5, if_pos h6, h4, hxe]
        obtain ⟨h1, h2, h3⟩ := refStep t q x hl hq hx'
        rw [if_pos h1, if_pos h2, h3]
    exact go 0 (by omega)
theorem psalteryref02_Add.calls (A0 : Option Addr) (c0 : Nat) (l0 : List Int) (a1 : Int) (A2 : Option Addr) (c2 : Nat) (l2 : List Int) (r : Int) (w : World) (hr0 : Kd.C (Kd.int .u32) w A0 l0.length l0) (hc0 : l0.length ≤ c0) (hr2 : Kd.C (Kd.int .u8) w A2 l2.length l2) (hc2 : l2.length ≤ c2) (h : psalteryref02_Add.f l0 a1 l2 = some r) :
    Calls Try.prog 29 #[.slice A0 l0.length c0, .int .u32 a1, .slice A2 l2.length c2] w fun e w' => e = .returned (.int .u32 r) ∧ Drawn0 w w' := by
  obtain ⟨k, hk⟩ := psalteryref02_Add.of h
  exact psalteryref02_Add_raw.calls k A0 c0 l0 a1 A2 c2 l2 r w hr0 hc0 hr2 hc2 hk

end Go.Proofs.Yteoclecadpapfaa.G
