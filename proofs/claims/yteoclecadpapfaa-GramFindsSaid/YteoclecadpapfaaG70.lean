/- What a call of psaltery/dgram.get does, told by a plain Lean function of its arguments. Written by a program for this claim. -/
import Derived.Test.YteoclecadpapfaaG0
import Derived.Test.YteoclecadpapfaaGR70
import Derived.Test.YteoclecadpapfaaM4
namespace Go.Proofs.Yteoclecadpapfaa.G
open Go.RowKit Go.Proofs.YteoclecadpapfaaW.PrintWords Go.Proofs.YteoclecadpapfaaW.PrintLast Go.Proofs.YteoclecadpapfaaW.PrintMore
attribute [local go_sem] max2_int min2_int max_two min_two max_three min_three max_four min_four
set_option linter.unusedVariables false
set_option linter.unusedSimpArgs false

def dgram_get.f (b : List Int) : Option Int := if okB b ∧ b.length ≤ 7 then some (valI b) else none
theorem dgram_get.of {b : List Int} {r : Int} (h : dgram_get.f b = some r) : ∃ k, dgram_get_raw.f k b = some r := by
  unfold dgram_get.f at h
  split at h
  case isFalse => cases h
  case isTrue h0 =>
    obtain ⟨hb, hn⟩ := h0
    injection h with h
    subst h
    refine Ev.rounds ?_
    unfold dgram_get_raw.f
    have go : ∀ j : Nat, j ≤ b.length → Ev (fun k => dgram_get_raw.l0 k (valI (b.take j)) b (b.length : Int) (j : Int)) (valI b) := by
      intro j hj
      induction hd : b.length - j generalizing j with
      | zero =>
        obtain rfl : j = b.length := by omega
        rw [List.take_length]
        refine Ev.step (f := fun _ => some (valI b)) (fun k => ?_) (Ev.now _)
        simp only [dgram_get_raw.l0]
        rw [if_neg (by omega)]
      | succ d ih =>
        refine Ev.step (f := fun k => dgram_get_raw.l0 k (valI (b.take (j + 1))) b (b.length : Int) ((j + 1 : Nat) : Int)) (fun k => ?_) (ih (j + 1) (by omega) (by omega))
        have hx := rd_mem hb (j : Int) (by omega)
        have h1 : (j : Int) < (b.length : Int) := by omega
        have h2 : (0 : Int) ≤ (j : Int) := by omega
        have h3 : 0 ≤ wrap64 (8 * (j : Int)) := by rw [wrap64_of (by omega) (by omega)]; omega
        have h4 : wrap64 ((j : Int) + 1) = ((j + 1 : Nat) : Int) := by unfold wrap64; omega
        have hlt := valI_lt (okB_take hb j)
        rw [List.length_take, Nat.min_eq_left (by omega)] at hlt
        have ho := or_byte (valI (b.take j)) (rd b (j : Int)) j (by omega) (valI_nonneg (okB_take hb j)) hlt hx.1 hx.2
        simp only [dgram_get_raw.l0]
        rw [if_pos h1, if_pos h2, if_pos h1, if_pos h3, h4, ho, valI_take b j (by omega)]
    exact go 0 (by omega)
theorem dgram_get.calls (A0 : Option Addr) (c0 : Nat) (l0 : List Int) (r : Int) (w : World) (hr0 : Kd.C (Kd.int .u8) w A0 l0.length l0) (hc0 : l0.length ≤ c0) (h : dgram_get.f l0 = some r) :
    Calls Try.prog 70 #[.slice A0 l0.length c0] w fun e w' => e = .returned (.int .i64 r) ∧ Drawn0 w w' := by
  obtain ⟨k, hk⟩ := dgram_get.of h
  exact dgram_get_raw.calls k A0 c0 l0 r w hr0 hc0 hk

end Go.Proofs.Yteoclecadpapfaa.G
