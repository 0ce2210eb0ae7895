/- Bytes that are added in parts have the sum of all of them. For every text and all cuts; beyond 5000 bytes the law asks nothing. -/
import Derived.Test.YteoclecadpapfaaG6
import Derived.Test.YteoclecadpapfaaM2
namespace Go.Proofs.Yteoclecadpapfaa.Pure
open Go.RowKit Go.Proofs.Yteoclecadpapfaa.G Go.Proofs.YteoclecadpapfaaW.PrintWords Go.Proofs.YteoclecadpapfaaW.PrintLast

/-- Where the next cut lies. -/
theorem cut_at (n x at_ : Int) (hn : 0 ≤ n) (hn' : n ≤ 140737488351232) (h0 : 0 ≤ at_) (h1 : at_ ≤ n) :
    ¬ (IntKind.u64.wrap (wrap64 ((wrap64 (n - at_)) + 1))) = 0 ∧
    at_ ≤ wrap64 (at_ + (wrap64 (Int.tmod (IntKind.u64.wrap x) (IntKind.u64.wrap (wrap64 ((wrap64 (n - at_)) + 1)))))) ∧
    wrap64 (at_ + (wrap64 (Int.tmod (IntKind.u64.wrap x) (IntKind.u64.wrap (wrap64 ((wrap64 (n - at_)) + 1)))))) ≤ n := by
  have e1 : wrap64 (n - at_) = n - at_ := by unfold wrap64; omega
  have e2 : wrap64 (n - at_ + 1) = n - at_ + 1 := by unfold wrap64; omega
  have hw : ∀ y : Int, IntKind.u64.wrap y = y % 18446744073709551616 := fun y => by simp [IntKind.wrap, IntKind.bits, IntKind.signed]
  have e3 : IntKind.u64.wrap (n - at_ + 1) = n - at_ + 1 := by rw [hw]; omega
  rw [e1, e2, e3]
  have hp : 0 < n - at_ + 1 := by omega
  have hx : 0 ≤ IntKind.u64.wrap x := by rw [hw]; omega
  have e4 : Int.tmod (IntKind.u64.wrap x) (n - at_ + 1) = IntKind.u64.wrap x % (n - at_ + 1) := Int.tmod_eq_emod_of_nonneg hx
  have h5 := Int.emod_nonneg (IntKind.u64.wrap x) (Int.ne_of_gt hp)
  have h6 := Int.emod_lt_of_pos (IntKind.u64.wrap x) hp
  rw [e4]
  generalize IntKind.u64.wrap x % (n - at_ + 1) = q at h5 h6 ⊢
  have e5 : wrap64 q = q := by unfold wrap64; omega
  rw [e5]
  have e6 : wrap64 (at_ + q) = at_ + q := by unfold wrap64; omega
  rw [e6]
  omega

theorem take_drop_join (t : List Int) (c : Int) (l : List Int) (a b : Nat) (h : a ≤ b) : addI t (addI t c (l.take a)) ((l.take b).drop a) = addI t c (l.take b) := by
  rw [← addI_append]
  congr 1
  have : l.take a = (l.take b).take a := by rw [List.take_take, Nat.min_eq_left h]
  rw [this]
  exact List.take_append_drop _ _

/-- The end: what is left is added. -/
theorem parts_end (t l m : List Int) (hl : t.length = 256) (a : Nat) (ha : a ≤ l.length) (i : Int) : psalterylaw02_SumParts.j1 1 l m t (addI t 4294967295 (l.take a)) (a : Int) i false = some true := by
  have e1 : addI t (addI t 4294967295 (l.take a)) (l.drop a) = addI t 4294967295 l := by rw [← addI_append, List.take_append_drop]
  have h0 : (0 : Int) ≤ (a : Int) := by omega
  have h1 : (a : Int) ≤ (l.length : Int) := by omega
  simp only [psalterylaw02_SumParts.j1, Int.toNat_natCast]
  rw [if_neg (by simp), if_pos h0, if_pos h1, sums_Add.f, if_pos hl, sums_Sum.f, if_pos hl, e1]
  unfold sums_End.f psalterylaw02_knows.f sumI
  simp only [Option.bind_some, if_true]

theorem parts_loop (t l m : List Int) (hl : t.length = 256) (hn : l.length ≤ 140737488351232) (_hm : m.length ≤ 140737488351232) (d : Nat) : ∀ (i a : Nat), a ≤ l.length → m.length - i = d → Ev (fun k => psalterylaw02_SumParts.l0 k l m t (addI t 4294967295 (l.take a)) (a : Int) (i : Int)) true := by
  induction d with
  | zero =>
    intro i a ha hd
    refine Ev.step (f := fun k => psalterylaw02_SumParts.j1 k l m t (addI t 4294967295 (l.take a)) (a : Int) (i : Int) false) (fun k => ?_) (Ev.of (fun k => (psalterylaw02_SumParts.mono_l k).2 _ _ _ _ _ _ _) (parts_end t l m hl a ha _))
    simp only [psalterylaw02_SumParts.l0]
    rw [if_neg (by omega)]
  | succ d ih =>
    intro i a ha hd
    have h1 : (i : Int) < (m.length : Int) := by omega
    refine Ev.step (f := fun k => psalterylaw02_SumParts.j1 k l m t (addI t 4294967295 (l.take a)) (a : Int) (i : Int) (decide ((i : Int) < 20))) (fun k => ?_) ?_
    · simp only [psalterylaw02_SumParts.l0]
      rw [if_pos h1]
    by_cases h20 : (i : Int) < 20
    · rw [decide_eq_true h20]
      have hc := cut_at (l.length : Int) (rd m (i : Int)) (a : Int) (by omega) (by omega) (by omega) (by omega)
      have h0 : (0 : Int) ≤ (i : Int) := by omega
      have ha0 : (0 : Int) ≤ (a : Int) := by omega
      have e1 : wrap64 ((i : Int) + 1) = ((i + 1 : Nat) : Int) := by unfold wrap64; omega
      obtain ⟨hc1, hc2, hc3⟩ := hc
      obtain ⟨b, hb⟩ : ∃ b : Nat, wrap64 ((a : Int) + (wrap64 (Int.tmod (IntKind.u64.wrap (rd m (i : Int))) (IntKind.u64.wrap (wrap64 ((wrap64 ((l.length : Int) - (a : Int))) + 1)))))) = (b : Int) := Int.eq_ofNat_of_zero_le (Int.le_trans ha0 hc2)
      rw [hb] at hc2 hc3
      have hab : a ≤ b := by omega
      refine Ev.step (f := fun k => psalterylaw02_SumParts.l0 k l m t (addI t 4294967295 (l.take b)) (b : Int) ((i + 1 : Nat) : Int)) (fun k => ?_) (ih (i + 1) b (by omega) (by omega))
      simp only [psalterylaw02_SumParts.j1, if_true]
      rw [if_pos h0, if_pos h1, if_neg hc1, if_pos ha0]
      simp only [hb, e1]
      rw [if_pos hc2, if_pos hc3, Int.toNat_natCast, Int.toNat_natCast, sums_Add.f, if_pos hl, Option.bind_some, if_pos rfl, take_drop_join _ _ _ _ _ hab]
    · rw [decide_eq_false h20]
      exact Ev.of (fun k => (psalterylaw02_SumParts.mono_l k).2 _ _ _ _ _ _ _) (parts_end t l m hl a ha _)

theorem SumParts : psalterylaw02_SumParts.Pure := by
  intro l m h1 h2 h3 h4 h5 h6
  unfold psalterylaw02_SumParts.f psalterylaw02_great.f
  refine Ev.rounds ?_
  by_cases hg : decide ((l.length : Int) > 5000) = true
  · refine Ev.congr (f := fun _ => some true) (fun k => ?_) (Ev.now _)
    rw [Option.bind_some, if_pos hg]
    rfl
  · obtain ⟨t, ht⟩ : ∃ t, t = tabL := ⟨_, rfl⟩
    have hT : sums_Table.f = some t := by rw [ht]; rfl
    have hl : t.length = 256 := by rw [ht]; exact tabL_length
    clear ht
    have hgo := parts_loop t l m hl (by omega) (by omega) _ 0 0 (by omega) rfl
    refine Ev.congr (fun k => ?_) hgo
    rw [Option.bind_some, if_neg hg, hT, Option.bind_some]
    rfl

end Go.Proofs.Yteoclecadpapfaa.Pure
