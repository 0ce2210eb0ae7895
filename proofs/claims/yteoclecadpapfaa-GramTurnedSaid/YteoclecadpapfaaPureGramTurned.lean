/- A datagram of which bits within 32, one behind the other, are turned ahead of the sum is not taken. For every datagram of which the bytes are bytes, place and bits; beyond 5000 bytes the law asks nothing. -/
import Derived.Test.YteoclecadpapfaaG16
import Derived.Test.YteoclecadpapfaaM9
namespace Go.Proofs.Yteoclecadpapfaa.Pure
open Go.RowKit Go.Proofs.Yteoclecadpapfaa.G Go.Proofs.YteoclecadpapfaaW.PrintWords Go.Proofs.YteoclecadpapfaaW.PrintLast Go.Proofs.YteoclecadpapfaaW.PrintMore

theorem sumI_tells (t x y : List Int) (hx : 0 ≤ addI t 4294967295 x ∧ addI t 4294967295 x < 4294967296) (hy : 0 ≤ addI t 4294967295 y ∧ addI t 4294967295 y < 4294967296) : sumI t x = sumI t y ↔ addI t 4294967295 x = addI t 4294967295 y := by
  unfold sumI
  obtain ⟨a, ha⟩ := Int.eq_ofNat_of_zero_le hx.1
  obtain ⟨b, hb⟩ := Int.eq_ofNat_of_zero_le hy.1
  rw [ha, hb, show (4294967295 : Int) = ((4294967295 : Nat) : Int) from rfl, xor_u32 _ _ (by omega) (by omega), xor_u32 _ _ (by omega) (by omega)]
  constructor
  · intro h
    have h1 : 4294967295 ^^^ a = 4294967295 ^^^ b := by exact_mod_cast h
    have h2 := congrArg (fun z => 4294967295 ^^^ z) h1
    simp only [← Nat.xor_assoc, Nat.xor_self, Nat.zero_xor] at h2
    rw [h2]
  · intro h
    have h1 : a = b := by exact_mod_cast h
    rw [h1]

theorem same_none : psalteryref19_Same.f 0 0 false [] 0 0 false [] = some true := by
  unfold psalteryref19_Same.f
  rw [if_pos rfl, if_pos rfl, if_pos (by simp)]
  simp
/-- By the table, turned bits are seen in the sum. -/
def Tells (t x0 : List Int) (f : Nat) : Prop := ∀ (x8 : List Int) (i e : Nat) (any : Bool), i ≤ 32 → Turned x0 x8 f i e any → (sumI t x8 = sumI t x0 ↔ any = false)
theorem tabL_tells (x0 : List Int) (f : Nat) (h0 : okB x0) (hf : f ≤ 8 * x0.length) : Tells tabL x0 f := by
  intro x8 i e any hi ht
  have hs := ht.sums h0 hf hi 4294967295 (by decide)
  exact (sumI_tells tabL x8 x0 (addI_range _ _ _ (by omega)) (addI_range _ _ _ (by omega))).trans hs

theorem gramTurned_end (t x0 x8 : List Int) (a2 f10 f11 f13 : Int) (f i e : Nat) (any : Bool) (hl : t.length = 256) (hn : x0.length ≤ 5000) (h7 : 7 ≤ x0.length) (hi : i ≤ 32) (ht : Turned x0 x8 f i e any) (tl : Tells t x0 f) :
    psalterylaw19_GramTurned.j2 1 a2 t (x8 ++ lowI (sumI t x0) 4) f10 f11 any f13 false = some true := by
  have hs := tl x8 i e any hi ht
  have h8 := ht.len
  simp only [psalterylaw19_GramTurned.j2]
  rw [if_neg (by simp)]
  cases any with
  | false => rfl
  | true =>
    have hne : sumI t x0 ≠ sumI t x8 := fun h => absurd (hs.mp h.symm) (by simp)
    have hok : okB (x8 ++ lowI (sumI t x0) 4) := by
      intro x hx
      rcases List.mem_append.mp hx with hx | hx
      · exact ht.ok x hx
      · exact lowI_ok _ _ x hx
    rw [if_pos rfl, dgram_Read_eq t _ hl hok (by rw [List.length_append, lowI_length]; omega), Option.bind_some, readG_tail t x8 _ (sumI_range _ _) (by omega), if_pos hne]
    simp only [psalterylaw19_As.f, Option.bind_some, same_none, if_true]
    rfl

theorem gramTurned_loop (t x0 : List Int) (a2 : Int) (f : Nat) (hl : t.length = 256) (hn : x0.length ≤ 5000) (h7 : 7 ≤ x0.length) (tl : Tells t x0 f) (d : Nat) : ∀ (i e : Nat) (x8 : List Int) (any : Bool), i ≤ 32 → 32 - i = d → Turned x0 x8 f i e any → f < 8 * x0.length →
    Ev (fun k => psalterylaw19_GramTurned.l0 k a2 t (x8 ++ lowI (sumI t x0) 4) ((8 * x0.length : Nat) : Int) (f : Int) any (i : Int)) true := by
  induction d with
  | zero =>
    intro i e x8 any hi hd ht hf
    refine Ev.step (f := fun k => psalterylaw19_GramTurned.j2 k a2 t (x8 ++ lowI (sumI t x0) 4) ((8 * x0.length : Nat) : Int) (f : Int) any (i : Int) false) (fun k => ?_) (Ev.of (fun k => (psalterylaw19_GramTurned.mono_l k).2.2 _ _ _ _ _ _ _ _) (gramTurned_end t x0 x8 a2 _ _ _ f i e any hl hn h7 hi ht tl))
    simp only [psalterylaw19_GramTurned.l0]
    rw [if_neg (by omega)]
  | succ d ih =>
    intro i e x8 any hi hd ht hf
    have h32 : (i : Int) < 32 := by omega
    have e1 : wrap64 ((f : Int) + (i : Int)) = ((f + i : Nat) : Int) := by unfold wrap64; omega
    refine Ev.step (f := fun k => psalterylaw19_GramTurned.j2 k a2 t (x8 ++ lowI (sumI t x0) 4) ((8 * x0.length : Nat) : Int) (f : Int) any (i : Int) (decide ((f + i : Nat) < 8 * x0.length))) (fun k => ?_) ?_
    · simp only [psalterylaw19_GramTurned.l0]
      rw [if_pos h32, e1]
      congr 1
      rw [decide_eq_decide]
      omega
    by_cases hlt : f + i < 8 * x0.length
    · rw [decide_eq_true hlt]
      have hi0 : (0 : Int) ≤ (i : Int) := by omega
      have e3 : wrap64 ((i : Int) + 1) = ((i + 1 : Nat) : Int) := by unfold wrap64; omega
      have e4 : wrap64 (Int.tdiv ((f + i : Nat) : Int) 8) = (((f + i) / 8 : Nat) : Int) := by rw [Int.tdiv_eq_ediv_of_nonneg (by omega)]; unfold wrap64; omega
      have e5 : Int.tmod ((f + i : Nat) : Int) 8 = (((f + i) % 8 : Nat) : Int) := by rw [Int.tmod_eq_emod_of_nonneg (by omega)]; omega
      have hk8 : (f + i) / 8 < x8.length := by have := ht.len; omega
      by_cases hb : Int.tmod (shr .u32 a2 (i : Int)) 2 = 1
      · refine Ev.step (f := fun k => psalterylaw19_GramTurned.l0 k a2 t (x8.set ((f + i) / 8) (Go.bits .xor .u8 (rd x8 (((f + i) / 8 : Nat) : Int)) (shl .u8 1 (((f + i) % 8 : Nat) : Int))) ++ lowI (sumI t x0) 4) ((8 * x0.length : Nat) : Int) (f : Int) true ((i + 1 : Nat) : Int)) (fun k => ?_) (ih (i + 1) _ _ _ (by omega) (by omega) (ht.bit ((f + i) / 8) ((f + i) % 8) (by omega) (by omega) (by omega)) hf)
        have h3 : (0 : Int) ≤ (((f + i) / 8 : Nat) : Int) := by omega
        have h4 : (((f + i) / 8 : Nat) : Int) < ((x8 ++ lowI (sumI t x0) 4).length : Int) := by rw [List.length_append]; omega
        have h5 : (0 : Int) ≤ (((f + i) % 8 : Nat) : Int) := by omega
        have e6 : rd (x8 ++ lowI (sumI t x0) 4) (((f + i) / 8 : Nat) : Int) = rd x8 (((f + i) / 8 : Nat) : Int) := by
          unfold rd
          rw [Int.toNat_natCast, List.getD_eq_getElem?_getD, List.getD_eq_getElem?_getD, List.getElem?_append_left hk8]
        simp only [psalterylaw19_GramTurned.j2, if_true]
        rw [if_pos hi0, if_pos hb]
        simp only [e1, e3, e4, e5]
        rw [if_pos h3, if_pos h4, if_pos h5, Int.toNat_natCast, e6, List.set_append_left _ _ hk8]
      · refine Ev.step (f := fun k => psalterylaw19_GramTurned.l0 k a2 t (x8 ++ lowI (sumI t x0) 4) ((8 * x0.length : Nat) : Int) (f : Int) any ((i + 1 : Nat) : Int)) (fun k => ?_) (ih (i + 1) _ _ _ (by omega) (by omega) ht.skip hf)
        simp only [psalterylaw19_GramTurned.j2, if_true]
        rw [if_pos hi0, if_neg hb, e3]
    · rw [decide_eq_false hlt]
      exact Ev.of (fun k => (psalterylaw19_GramTurned.mono_l k).2.2 _ _ _ _ _ _ _ _) (gramTurned_end t x0 x8 a2 _ _ _ f i e any hl hn h7 hi ht tl)

theorem gramTurned_j0 (t x0 : List Int) (a1 a2 : Int) (hl : t.length = 256) (h0 : okB x0) (hn : x0.length ≤ 5000) (h7 : 7 ≤ x0.length) (tl : ∀ f, f ≤ 8 * x0.length → Tells t x0 f) : Ev (fun k => psalterylaw19_GramTurned.j0 k a1 a2 t (x0 ++ lowI (sumI t x0) 4) 0 false) true := by
  have hw : ∀ y : Int, IntKind.u64.wrap y = y % 18446744073709551616 := fun y => by simp [IntKind.wrap, IntKind.bits, IntKind.signed]
  have hlen : ((x0 ++ lowI (sumI t x0) 4).length : Int) = (x0.length : Int) + 4 := by rw [List.length_append, lowI_length]; omega
  have e1 : wrap64 (((x0 ++ lowI (sumI t x0) 4).length : Int) - 4) = (x0.length : Int) := by rw [hlen]; unfold wrap64; omega
  have e2 : wrap64 (8 * (x0.length : Int)) = ((8 * x0.length : Nat) : Int) := by unfold wrap64; omega
  have e3 : IntKind.u64.wrap ((8 * x0.length : Nat) : Int) = ((8 * x0.length : Nat) : Int) := by rw [hw]; omega
  have hx : 0 ≤ IntKind.u64.wrap a1 := by rw [hw]; omega
  have e4 : Int.tmod (IntKind.u64.wrap a1) ((8 * x0.length : Nat) : Int) = IntKind.u64.wrap a1 % ((8 * x0.length : Nat) : Int) := Int.tmod_eq_emod_of_nonneg hx
  have h5 := Int.emod_nonneg (IntKind.u64.wrap a1) (b := ((8 * x0.length : Nat) : Int)) (by omega)
  have h6 := Int.emod_lt_of_pos (IntKind.u64.wrap a1) (b := ((8 * x0.length : Nat) : Int)) (by omega)
  obtain ⟨f, hf⟩ := Int.eq_ofNat_of_zero_le h5
  have e5 : wrap64 (IntKind.u64.wrap a1 % ((8 * x0.length : Nat) : Int)) = (f : Int) := by rw [hf]; rw [hf] at h6; unfold wrap64; omega
  refine Ev.step (f := fun k => psalterylaw19_GramTurned.l0 k a2 t (x0 ++ lowI (sumI t x0) 4) ((8 * x0.length : Nat) : Int) (f : Int) false 0) (fun k => ?_) (gramTurned_loop t x0 a2 f hl hn h7 (tl f (by omega)) _ 0 0 x0 false (by omega) rfl (Turned.start h0 f) (by omega))
  have h8 : ¬ ((8 * x0.length : Nat) : Int) = 0 := by omega
  simp only [psalterylaw19_GramTurned.j0]
  rw [if_neg (by simp), e1, e2, e3, if_neg h8, e4, e5]

theorem GramTurned (a b : Int) (c : Bool) (l : List Int) (a1 a2 : Int) (hl : okB l) : ∃ k, psalterylaw19_GramTurned.f k a b c l a1 a2 = some true := by
  have htl : ∀ f, f ≤ 8 * (gramHead a b c l).length → Tells tabL (gramHead a b c l) f := fun f hf => tabL_tells _ f (okB_head a b c l hl) hf
  obtain ⟨t, ht⟩ : ∃ t, t = tabL := ⟨_, rfl⟩
  have hT : sums_Table.f = some t := by rw [ht]; rfl
  have hl0 : t.length = 256 := by rw [ht]; exact tabL_length
  rw [← ht] at htl
  clear ht
  unfold psalterylaw19_GramTurned.f psalterylaw19_great.f
  simp only [Option.bind_some]
  by_cases hg : decide ((l.length : Int) > 5000) = true
  · exact ⟨0, by rw [if_pos hg]; rfl⟩
  · simp only [if_neg hg, hT, Option.bind_some]
    cases hr : gramRight a b c l with
    | true =>
      have hn := gramHead_length a b c l
      have h5 : l.length ≤ 400 := ((gramRight_iff a b c l).mp hr).2.2.2.2.1
      have hb : (decide (((gramHead a b c l ++ lowI (sumI t (gramHead a b c l)) 4).length : Int) < 11)) = false := by
        rw [List.length_append, lowI_length]
        exact decide_eq_false (by omega)
      have := (gramTurned_j0 t (gramHead a b c l) a1 a2 hl0 (okB_head a b c l hl) (by omega) (by omega) htl).rounds
      obtain ⟨k, hk⟩ := this
      refine ⟨k, ?_⟩
      rw [dgram_Write.f, if_pos ⟨hr, hl0⟩, Option.bind_some]
      have hb' : (decide (((gramBytes t a b c l).length : Int) < 11)) = false := hb
      show (if (0 : Int) = 0 then psalterylaw19_GramTurned.j0 k a1 a2 t (gramBytes t a b c l) 0 (decide (((gramBytes t a b c l).length : Int) < 11)) else _) = some true
      rw [if_pos rfl, hb']
      exact hk
    | false =>
      refine ⟨1, ?_⟩
      rw [dgram_Write.f, if_neg (fun h => by rw [hr] at h; exact absurd h.1 (by simp)), Option.bind_some]
      simp only
      rw [if_neg (by decide)]
      rfl
end Go.Proofs.Yteoclecadpapfaa.Pure
