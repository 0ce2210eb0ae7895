/- Two texts of one length that differ in bits within 32 bits, one behind the other, have unlike sums. For every text, place and bits; beyond 5000 bytes the law asks nothing. -/
import Derived.Test.YteoclecadpapfaaG8
import Derived.Test.YteoclecadpapfaaM3
namespace Go.Proofs.Yteoclecadpapfaa.Pure
open Go.RowKit Go.Proofs.Yteoclecadpapfaa.G Go.Proofs.YteoclecadpapfaaW.PrintWords Go.Proofs.YteoclecadpapfaaW.PrintLast Go.Proofs.YteoclecadpapfaaW.PrintMore

theorem sumI_inj (t x y : List Int) (hx : 0 ≤ addI t 4294967295 x ∧ addI t 4294967295 x < 4294967296) (hy : 0 ≤ addI t 4294967295 y ∧ addI t 4294967295 y < 4294967296) : sumI t x = sumI t y ↔ addI t 4294967295 x = addI t 4294967295 y := by
  unfold sumI
  obtain ⟨a, ha⟩ := Int.eq_ofNat_of_zero_le hx.1
  obtain ⟨b, hb⟩ := Int.eq_ofNat_of_zero_le hy.1
  rw [ha, hb, show (4294967295 : Int) = ((4294967295 : Nat) : Int) from rfl, xor_u32 _ _ (by omega) (by omega), xor_u32 _ _ (by omega) (by omega)]
  constructor
  · intro h
    have h1 : 4294967295 ^^^ a = 4294967295 ^^^ b := by exact_mod_cast h
    have h2 := congrArg (fun z => 4294967295 ^^^ z) h1
    simp only [← Nat.xor_assoc, Nat.xor_self, Nat.zero_xor] at h2
    rw [h2]
  · intro h
    have h1 : a = b := by exact_mod_cast h
    rw [h1]

theorem bursts_end (x0 x8 : List Int) (a2 f10 : Int) (f i e : Nat) (any : Bool) (h0 : okB x0) (hf : f ≤ 8 * x0.length) (hi : i ≤ 32) (ht : Turned x0 x8 f i e any) : psalterylaw02_SumBursts.j2 1 x0 a2 (f : Int) x8 any f10 false = some true := by
  have hs := ht.sums h0 hf hi 4294967295 (by decide)
  have hj := sumI_inj tabL x8 x0 (addI_range _ _ _ (by omega)) (addI_range _ _ _ (by omega))
  obtain ⟨t, htt⟩ : ∃ t, t = tabL := ⟨_, rfl⟩
  have hT : sums_Table.f = some t := by rw [htt]; rfl
  have hl : t.length = 256 := by rw [htt]; exact tabL_length
  rw [show ((4294967295 : Nat) : Int) = 4294967295 from rfl, ← htt] at hs
  rw [← htt] at hj
  clear htt
  have hb : ((sumI t x0 != sumI t x8) == any) = true := by
    cases any with
    | false =>
      have := hj.mpr (hs.mpr rfl)
      rw [this]
      simp
    | true =>
      have : ¬ sumI t x0 = sumI t x8 := fun h => absurd (hs.mp (hj.mp h.symm)) (by simp)
      simp [this]
  simp only [psalterylaw02_SumBursts.j2]
  rw [if_neg (by simp), hT, Option.bind_some, sums_Sum.f, if_pos hl, Option.bind_some, Option.bind_some, sums_Sum.f, if_pos hl, Option.bind_some, if_pos rfl, if_pos rfl, if_pos hb]
  rfl

theorem bursts_loop (x0 : List Int) (a2 : Int) (f : Nat) (h0 : okB x0) (hn : x0.length ≤ 5000) (hf : f < 8 * x0.length) (d : Nat) : ∀ (i e : Nat) (x8 : List Int) (any : Bool), i ≤ 32 → 32 - i = d → Turned x0 x8 f i e any → Ev (fun k => psalterylaw02_SumBursts.l0 k x0 a2 (f : Int) x8 any (i : Int)) true := by
  induction d with
  | zero =>
    intro i e x8 any hi hd ht
    refine Ev.step (f := fun k => psalterylaw02_SumBursts.j2 k x0 a2 (f : Int) x8 any (i : Int) false) (fun k => ?_) (Ev.of (fun k => (psalterylaw02_SumBursts.mono_l k).2.2 _ _ _ _ _ _ _) (bursts_end x0 x8 a2 _ f i e any h0 (by omega) hi ht))
    simp only [psalterylaw02_SumBursts.l0]
    rw [if_neg (by omega)]
  | succ d ih =>
    intro i e x8 any hi hd ht
    have h32 : (i : Int) < 32 := by omega
    have e1 : wrap64 ((f : Int) + (i : Int)) = ((f + i : Nat) : Int) := by unfold wrap64; omega
    have e2 : wrap64 (8 * (x0.length : Int)) = ((8 * x0.length : Nat) : Int) := by unfold wrap64; omega
    refine Ev.step (f := fun k => psalterylaw02_SumBursts.j2 k x0 a2 (f : Int) x8 any (i : Int) (decide ((f + i : Nat) < 8 * x0.length))) (fun k => ?_) ?_
    · simp only [psalterylaw02_SumBursts.l0]
      rw [if_pos h32, e1, e2]
      congr 1
      rw [decide_eq_decide]
      omega
    by_cases hlt : f + i < 8 * x0.length
    · rw [decide_eq_true hlt]
      have hi0 : (0 : Int) ≤ (i : Int) := by omega
      have e3 : wrap64 ((i : Int) + 1) = ((i + 1 : Nat) : Int) := by unfold wrap64; omega
      have e4 : wrap64 (Int.tdiv ((f + i : Nat) : Int) 8) = (((f + i) / 8 : Nat) : Int) := by rw [Int.tdiv_eq_ediv_of_nonneg (by omega)]; unfold wrap64; omega
      have e5 : Int.tmod ((f + i : Nat) : Int) 8 = (((f + i) % 8 : Nat) : Int) := by rw [Int.tmod_eq_emod_of_nonneg (by omega)]; omega
      by_cases hb : Int.tmod (shr .u32 a2 (i : Int)) 2 = 1
      · refine Ev.step (f := fun k => psalterylaw02_SumBursts.l0 k x0 a2 (f : Int) (x8.set ((f + i) / 8) (Go.bits .xor .u8 (rd x8 (((f + i) / 8 : Nat) : Int)) (shl .u8 1 (((f + i) % 8 : Nat) : Int)))) true ((i + 1 : Nat) : Int)) (fun k => ?_) (ih (i + 1) _ _ _ (by omega) (by omega) (ht.bit ((f + i) / 8) ((f + i) % 8) (by omega) (by omega) (by omega)))
        have h3 : (0 : Int) ≤ (((f + i) / 8 : Nat) : Int) := by omega
        have h4 : (((f + i) / 8 : Nat) : Int) < (x8.length : Int) := by have := ht.len; omega
        have h5 : (0 : Int) ≤ (((f + i) % 8 : Nat) : Int) := by omega
        simp only [psalterylaw02_SumBursts.j2, if_true]
        rw [if_pos hi0, if_pos hb]
        simp only [e1, e3, e4, e5]
        rw [if_pos h3, if_pos h4, if_pos h5, Int.toNat_natCast]
      · refine Ev.step (f := fun k => psalterylaw02_SumBursts.l0 k x0 a2 (f : Int) x8 any ((i + 1 : Nat) : Int)) (fun k => ?_) (ih (i + 1) _ _ _ (by omega) (by omega) ht.skip)
        simp only [psalterylaw02_SumBursts.j2, if_true]
        rw [if_pos hi0, if_neg hb, e3]
    · rw [decide_eq_false hlt]
      exact Ev.of (fun k => (psalterylaw02_SumBursts.mono_l k).2.2 _ _ _ _ _ _ _) (bursts_end x0 x8 a2 _ f i e any h0 (by omega) hi ht)

theorem bursts_j0 (x0 : List Int) (a1 a2 : Int) (h0 : okB x0) (hn : x0.length ≤ 5000) (hp : 0 < x0.length) : Ev (fun k => psalterylaw02_SumBursts.j0 k x0 a1 a2 false) true := by
  have hw : ∀ y : Int, IntKind.u64.wrap y = y % 18446744073709551616 := fun y => by simp [IntKind.wrap, IntKind.bits, IntKind.signed]
  have e2 : wrap64 (8 * (x0.length : Int)) = ((8 * x0.length : Nat) : Int) := by unfold wrap64; omega
  have e3 : IntKind.u64.wrap ((8 * x0.length : Nat) : Int) = ((8 * x0.length : Nat) : Int) := by rw [hw]; omega
  have hx : 0 ≤ IntKind.u64.wrap a1 := by rw [hw]; omega
  have e4 : Int.tmod (IntKind.u64.wrap a1) ((8 * x0.length : Nat) : Int) = IntKind.u64.wrap a1 % ((8 * x0.length : Nat) : Int) := Int.tmod_eq_emod_of_nonneg hx
  have h5 := Int.emod_nonneg (IntKind.u64.wrap a1) (b := ((8 * x0.length : Nat) : Int)) (by omega)
  have h6 := Int.emod_lt_of_pos (IntKind.u64.wrap a1) (b := ((8 * x0.length : Nat) : Int)) (by omega)
  obtain ⟨f, hf⟩ := Int.eq_ofNat_of_zero_le h5
  have e5 : wrap64 (IntKind.u64.wrap a1 % ((8 * x0.length : Nat) : Int)) = (f : Int) := by rw [hf]; rw [hf] at h6; unfold wrap64; omega
  refine Ev.step (f := fun k => psalterylaw02_SumBursts.l0 k x0 a2 (f : Int) x0 false 0) (fun k => ?_) (bursts_loop x0 a2 f h0 hn (by omega) _ 0 0 x0 false (by omega) rfl (Turned.start h0 f))
  have h7 : ¬ ((8 * x0.length : Nat) : Int) = 0 := by omega
  have h8 : ([] : List Int).length + x0.length < 140737488355328 := by rw [List.length_nil]; omega
  simp only [psalterylaw02_SumBursts.j0]
  rw [if_neg (by simp), e2, e3, if_neg h7, Option.bind_some, if_pos h8, e4, e5, List.nil_append]

theorem SumBursts : psalterylaw02_SumBursts.Pure := by
  intro x0 a1 a2 h1 h2 h3 h4 h5
  have h0 := okB_wf h3
  have hk : ∃ k, psalterylaw02_SumBursts.j0 k x0 a1 a2 true = some true := ⟨1, rfl⟩
  unfold psalterylaw02_SumBursts.f psalterylaw02_great.f
  simp only [Option.bind_some]
  by_cases hg : decide ((x0.length : Int) > 5000) = true
  · simp only [if_pos hg]
    exact hk
  · simp only [if_neg hg]
    have hg' : x0.length ≤ 5000 := by
      have := of_decide_eq_false (Bool.eq_false_iff.mpr hg)
      omega
    by_cases hz : (x0.length : Int) = 0
    · simp only [if_pos hz]
      exact hk
    · simp only [if_neg hz]
      by_cases h2 : (a2 == 0) = true
      · rw [h2]; exact hk
      · rw [Bool.eq_false_iff.mpr h2]
        exact (bursts_j0 x0 a1 a2 h0 hg' (by omega)).rounds

end Go.Proofs.Yteoclecadpapfaa.Pure
