/- What a call of psaltery/psalteryref19.low does, told by a plain Lean function of its arguments. Written by a program for this claim. -/
import Derived.Test.YteoclecadpapfaaG0
import Derived.Test.YteoclecadpapfaaM4
namespace Go.Proofs.Yteoclecadpapfaa.G
open Go.RowKit Go.Proofs.YteoclecadpapfaaW.PrintWords Go.Proofs.YteoclecadpapfaaW.PrintLast Go.Proofs.YteoclecadpapfaaW.PrintMore
attribute [local go_sem] max2_int min2_int max_two min_two max_three min_three max_four min_four
set_option linter.unusedVariables false
set_option linter.unusedSimpArgs false

/-! ### psalteryref19_low_raw: function 69 -/
def psalteryref19_low_raw.f : Nat → Int → Int → Option (List Int)
  | 0, _, _ => none
  | k + 1, a0, a1 => if a1 = 0 then (some ([] : List Int)) else ((some (([(Int.tmod a0 256) % 256] : List Int) : List Int)).bind fun y101 => ((psalteryref19_low_raw.f k (wrap64 (Int.tdiv a0 256)) (wrap64 (a1 - 1))).bind fun t104 => (if y101.length + t104.length < 140737488355328 then (some (y101 ++ t104)) else (none))))
theorem psalteryref19_low_raw.mono_l : ∀ k, (∀ y0 y1, LeO (psalteryref19_low_raw.f k y0 y1) (psalteryref19_low_raw.f (k + 1) y0 y1))
  | 0 => fun _ _ r h => by simp [psalteryref19_low_raw.f] at h
  | k + 1 => by
    have ih0 := psalteryref19_low_raw.mono_l k
    · intro y0 y1
      unfold psalteryref19_low_raw.f
      repeat' first
      | (with_reducible exact ih0 _ _)
      | (with_reducible exact LeO.refl _)
      | (with_reducible exact LeO.none _)
      | (with_reducible refine LeO.ite ?_ ?_)
      | (with_reducible refine LeO.bind ?_ (fun _ => ?_))
      | exact ih0 _ _
      | exact LeO.none _
      | refine LeO.ite ?_ ?_
      | refine LeO.bind ?_ (fun _ => ?_)
theorem psalteryref19_low_raw.mono : ∀ a0 a1 k, LeO (psalteryref19_low_raw.f k a0 a1) (psalteryref19_low_raw.f (k + 1) a0 a1) := by
  intro a0 a1 k
  have ih0 := psalteryref19_low_raw.mono_l k
  exact ih0 a0 a1
set_option maxHeartbeats 8000000 in
set_option maxRecDepth 100000 in
theorem psalteryref19_low_raw.calls (k : Nat) : ∀ (a0 : Int) (a1 : Int) (r : List Int) (w : World) (h : psalteryref19_low_raw.f k a0 a1 = some r),
    Calls Try.prog 69 #[.int .i64 a0, .int .i64 a1] w fun e w' => ∃ v0_ : Value, e = .returned (v0_) ∧ Kd.R (Kd.int .u8) 5 w' w.heap.size (fun _ => True) v0_ r ∧ Below w.heap.size w w' := by
  induction k using Nat.strongRecOn with
  | _ k ih =>
  intro a0 a1 r w h
  cases k with
  | zero => exact absurd h (by simp [psalteryref19_low_raw.f])
  | succ k =>
  simp only [psalteryref19_low_raw.f] at h
  have HB := Aside0.mk (Below.refl w.heap.size w)
  have H : (if a1 = 0 then (some ([] : List Int)) else ((some (([(Int.tmod a0 256) % 256] : List Int) : List Int)).bind fun y101 => ((psalteryref19_low_raw.f k (wrap64 (Int.tdiv a0 256)) (wrap64 (a1 - 1))).bind fun t104 => (if y101.length + t104.length < 140737488355328 then (some (y101 ++ t104)) else (none))))) = some r := h
  clear h
  by_cases c3 : a1 = 0
  · rw [if_pos c3] at H
    have c3b0 : (a1 == 0) = true := beq_iff_eq.mpr c3
    have c3b1 : (a1 != 0) = false := bne_eq_false_iff_eq.mpr c3
    clear c3
    obtain rfl := Option.some.inj H
    go_enter Try.func69, Try.ntmps69
    go_wp2
    go_ret
    exact ⟨_, by first | rfl | (simp [errW_none, errW_some] <;> rfl) | (simp [*, errW_none, errW_some] <;> rfl), by first | exact Kd.R_nil _ _ _ _ _ | exact Kd.N_nil _ _ _ _ _ | exact Kd.V_nil _ _ _ _ _ | exact Kd.Q_nil _ _ _ _ _ | exact Kd.S_nil _ _ _ _ _, by repeat (first | (with_reducible first | exact HB.out | apply below_alloc | apply pw_below_drewN | apply below_drew1) | exact HB.out)⟩
  · rw [if_neg c3] at H
    have c3b0 : (a1 == 0) = false := beq_eq_false_iff_ne.mpr c3
    have c3b1 : (a1 != 0) = true := bne_iff_ne.mpr c3
    obtain ⟨y101, hy101⟩ : ∃ y_ : List Int, y_ = (([(Int.tmod a0 256) % 256] : List Int)) := ⟨_, rfl⟩
    replace H : ((psalteryref19_low_raw.f k (wrap64 (Int.tdiv a0 256)) (wrap64 (a1 - 1))).bind fun t104 => (if y101.length + t104.length < 140737488355328 then (some (y101 ++ t104)) else (none))) = some r := by first | (rw [hy101]; with_reducible exact H) | (have H2_ := (Option.bind_some _ _).symm.trans H; rw [hy101]; with_reducible exact H2_) | (have H2_ := (Option.bind_some _ _).symm.trans H; with_reducible exact H2_) | with_reducible exact H | (rw [hy101]; exact H) | exact H
    have Ny101 := Aside0.mk hy101
    clear hy101
    replace H := Option.bind_eq_some_iff.mp H
    obtain ⟨t104, A40, H⟩ := H
    replace H : (if y101.length + t104.length < 140737488355328 then (some (y101 ++ t104)) else (none)) = some r := H
    have A4 := Aside0.mk A40
    clear A40
    by_cases c5 : y101.length + t104.length < 140737488355328
    · rw [if_pos c5] at H
      have LMc5 := Aside0.mk c5
      clear c5
      obtain ⟨y107, hy107⟩ : ∃ y_ : List Int, y_ = (y101 ++ t104) := ⟨_, rfl⟩
      replace H : (some y107) = some r := by first | (rw [hy107]; with_reducible exact H) | (have H2_ := (Option.bind_some _ _).symm.trans H; rw [hy107]; with_reducible exact H2_) | (have H2_ := (Option.bind_some _ _).symm.trans H; with_reducible exact H2_) | with_reducible exact H | (rw [hy107]; exact H) | exact H
      have Ny107 := Aside0.mk hy107
      clear hy107
      obtain rfl := Option.some.inj H
      go_enter Try.func69, Try.ntmps69
      go_wp2_with (first | ((with_reducible refine gate_dst (N := 10) rfl ?_); refine Kd.R_lit (Kd.int .u8) _ 5 ?hg (N := 10) ?hd (xs := ([(Int.tmod a0 256) % 256] : List Int)) (inner := [.int .u8 ((Int.tmod a0 256) % 256)]) (ok := fun _ => True) (okp := fun _ => True) ?hr ?hp (fun _ hk => hk) trivial (Below.refl _ _) (Nat.le_refl _) (by simp) ?_; (case hd => rfl); (case hg => rfl); (case hr => first | (go_simp; done) | (go_simp; rfl)); (case hp => exact (Reps.one (show Kd.M (Kd.int .u8) _ _ _ ((Int.tmod a0 256) % 256) [.int .u8 ((Int.tmod a0 256) % 256)] from rfl) (Reps.none _ _))); intro v102 w6 ho7 hb hg_ hnew_; clear hg_ hnew_; (first | rw [← Ny101.out] at ho7 | (simp only [Int.reduceToNat] at ho7; rw [← Ny101.out] at ho7)); have n0_ := Aside0.mk (Kd.R_lower ho7 (below_size (by repeat (first | (with_reducible first | exact HB.out | apply below_alloc | apply pw_below_drewN | apply below_drew1) | exact HB.out)))); have n1_ := Aside0.mk (below_step (by repeat (first | (with_reducible first | exact HB.out | apply below_alloc | apply pw_below_drewN | apply below_drew1) | exact HB.out)) hb); clear HB; have HO103 := n0_; have HB := n1_; clear n0_ n1_; clear hb ho7) | ((with_reducible refine gate_callee (f := 69) rfl ?_); refine goesL_ (some 15) rfl rfl Try.func69 (by kernel_rfl) rfl #[.int .i64 (wrap64 (Int.tdiv a0 256)), .int .i64 (wrap64 (a1 - 1))] rfl (by (try simp only [List.map_toArray, List.map_cons, List.map_nil]); first | done | rfl | (simp only [List.length_drop, List.length_take]; rfl)) ?_; (with_reducible refine (ih k (by omega) (wrap64 (Int.tdiv a0 256)) (wrap64 (a1 - 1)) t104 _ A4.out).mono ?_); rintro e w8 ⟨v105, rfl, ho0, hb⟩; refine ⟨_, rfl, ?_⟩; have n0_ := Aside0.mk (Kd.R_elder' (by (with_reducible repeat (first | apply Kd.R_alloc | apply Kd.R_drewN | apply Kd.R_drew)); exact HO103.out) (Kd.R_base ho0) hb); have n1_ := Aside0.mk (Kd.R_lower (Kd.R_new' ho0 (Kd.R_lt (by (with_reducible repeat (first | apply Kd.R_alloc | apply Kd.R_drewN | apply Kd.R_drew)); exact HO103.out))) (below_size (by repeat (first | (with_reducible first | exact HB.out | apply below_alloc | apply pw_below_drewN | apply below_drew1) | exact HB.out)))); have n2_ := Aside0.mk (below_step (by repeat (first | (with_reducible first | exact HB.out | apply below_alloc | apply pw_below_drewN | apply below_drew1) | exact HB.out)) hb); clear HO103; clear HB; have HO103 := n0_; have HO106 := n1_; have HB := n2_; clear n0_ n1_ n2_; (try clear hb); (try clear hb2); (try clear hk); (try clear hi); (try clear ho0); obtain ⟨Ao10, co10, eo10⟩ := Kd.R_slice HO106.out; subst eo10) | ((with_reducible refine gate_builtin (b := .append) (xs := #[.tmp 10, .tmp 15]) rfl ?_); at_builtin; refine Kd.R_append_rows (Kd.int .u8) (w0 := w) w.heap.size rfl (.tmp 10) (.tmp 15) 28 5 (.int .u8 0) 1 rfl Try.underlying28 info5 rfl (by decide) (by omega) v102 y101 t104 _ _ _ (fun k_ => some k_ ≠ (.slice Ao10 t104.length co10 : Value).ownBlock) (fun _ => False) rfl rfl ?aO ?aR (fun _ _ h => h) (fun _ h => h.elim) ?aF ?aB ?aS ?aL ?_; (case aR => repeat (first | exact (Kd.R_reads' HO106.out).2.2 | (with_reducible refine Kd.C_alloc ?_ _) | (with_reducible refine Kd.C_drewN ?_ _) | (with_reducible refine Kd.C_drew ?_))); (case aB => exact (by repeat (first | (with_reducible first | exact HB.out | apply below_alloc | apply pw_below_drewN | apply below_drew1) | exact HB.out))); (case aF => exact (fun k_ hk => Kd.fresh' (Kd.R_lt (by (with_reducible repeat (first | apply Kd.R_alloc | apply Kd.R_drewN | apply Kd.R_drew)); exact HO106.out)) k_ hk)); (case aO => exact (by (with_reducible repeat (first | apply Kd.R_alloc | apply Kd.R_drewN | apply Kd.R_drew)); exact Kd.R_mono HO103.out (fun _ hk => hk.2))); (case aS => exact (below_size (by repeat (first | (with_reducible first | exact HB.out | apply below_alloc | apply pw_below_drewN | apply below_drew1) | exact HB.out)))); (case aL => have := LMc5.out; omega); intro v108 w9 ho hb hg hat; rw [← Ny107.out] at ho; have n0_ := Aside0.mk (Kd.R_after (ok := (fun _ => True)) (by (with_reducible repeat (first | apply Kd.R_alloc | apply Kd.R_drewN | apply Kd.R_drew)); exact HO106.out) hg hat); have n1_ := Aside0.mk (hb); have n2_ := Aside0.mk (ho); clear HO106; clear HB; clear HO103; have HO106 := n0_; have HB := n1_; have HO109 := n2_; clear n0_ n1_ n2_; clear ho hb hg hat))
      go_ret
      exact ⟨_, by first | rfl | (simp [errW_none, errW_some] <;> rfl) | (simp [*, errW_none, errW_some] <;> rfl), by (with_reducible repeat (first | apply Kd.R_alloc | apply Kd.R_drewN | apply Kd.R_drew)); exact Kd.R_mono HO109.out (fun _ hk => trivial), by repeat (first | (with_reducible first | exact HB.out | apply below_alloc | apply pw_below_drewN | apply below_drew1) | exact HB.out)⟩
    · rw [if_neg c5] at H
      exact absurd H (by simp)

def psalteryref19_low.f (v n : Int) : Option (List Int) := if 0 ≤ v ∧ v ≤ 9223372036854775807 ∧ 0 ≤ n ∧ n ≤ 8 then some (lowI v n.toNat) else none
theorem psalteryref19_low.of {v n : Int} {r : List Int} (h : psalteryref19_low.f v n = some r) : ∃ k, psalteryref19_low_raw.f k v n = some r := by
  unfold psalteryref19_low.f at h
  split at h
  case isFalse => cases h
  case isTrue h0 =>
    obtain ⟨h1, h2, h3, h4⟩ := h0
    injection h with h
    subst h
    obtain ⟨m, rfl⟩ := Int.eq_ofNat_of_zero_le h3
    rw [Int.toNat_natCast]
    refine ⟨m + 1, ?_⟩
    induction m generalizing v with
    | zero => rfl
    | succ m ih =>
      have e0 : ¬ ((m + 1 : Nat) : Int) = 0 := by omega
      have e1 : wrap64 (((m + 1 : Nat) : Int) - 1) = (m : Int) := by rw [wrap64_of (by omega) (by omega)]; omega
      have e2 : wrap64 (Int.tdiv v 256) = v / 256 := by rw [Int.tdiv_eq_ediv_of_nonneg h1, wrap64_of (by omega) (by omega)]
      have e3 : Int.tmod v 256 % 256 = v % 256 := by rw [Int.tmod_eq_emod_of_nonneg h1]; omega
      have hi := ih (v := v / 256) (by omega) (by omega) (by omega) (by omega)
      rw [psalteryref19_low_raw.f, if_neg e0, Option.bind_some, e1, e2, e3, hi, Option.bind_some, if_pos ?_]
      · rfl
      · rw [lowI_length]
        simp only [List.length_cons, List.length_nil]
        omega
theorem psalteryref19_low.calls (a0 : Int) (a1 : Int) (r : List Int) (w : World) (h : psalteryref19_low.f a0 a1 = some r) :
    Calls Try.prog 69 #[.int .i64 a0, .int .i64 a1] w fun e w' => ∃ v0_ : Value, e = .returned (v0_) ∧ Kd.R (Kd.int .u8) 5 w' w.heap.size (fun _ => True) v0_ r ∧ Below w.heap.size w w' := by
  obtain ⟨k, hk⟩ := psalteryref19_low.of h
  exact psalteryref19_low_raw.calls k a0 a1 r w hk

end Go.Proofs.Yteoclecadpapfaa.G
