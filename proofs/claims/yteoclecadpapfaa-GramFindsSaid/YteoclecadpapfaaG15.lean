/- What a call of psaltery/psalterylaw19.GramFinds does, told by a plain Lean function of its arguments. Written by a program for this claim. -/
import Derived.Test.YteoclecadpapfaaG0
import Derived.Test.YteoclecadpapfaaG40
import Derived.Test.YteoclecadpapfaaG49
import Derived.Test.YteoclecadpapfaaG51
namespace Go.Proofs.Yteoclecadpapfaa.G
open Go.RowKit Go.Proofs.YteoclecadpapfaaW.PrintWords Go.Proofs.YteoclecadpapfaaW.PrintLast Go.Proofs.YteoclecadpapfaaW.PrintMore
attribute [local go_sem] max2_int min2_int max_two min_two max_three min_three max_four min_four
set_option linter.unusedVariables false
set_option linter.unusedSimpArgs false

/-! ### psalterylaw19_GramFinds: function 15 -/
def psalterylaw19_GramFinds.j0 : Nat → Int → Int → Int → Bool → Option (Bool)
  | 0, _, _, _, _ => none
  | k + 1, x0, x1, x2, x24 => if x24 = true then ((psalterylaw19_knows.f).bind fun t101 => (some t101)) else (if 0 ≤ (wrap64 (x2 - 1)) then (if (IntKind.u64.wrap (wrap64 ((wrap64 (2 * (shl .i64 1 (wrap64 (x2 - 1))))) - 1))) = 0 then (none) else (if (wrap64 ((wrap64 (x0 + (wrap64 (Int.tmod (IntKind.u64.wrap (x1)) (IntKind.u64.wrap (wrap64 ((wrap64 (2 * (shl .i64 1 (wrap64 (x2 - 1))))) - 1))))))) - (wrap64 ((shl .i64 1 (wrap64 (x2 - 1))) - 1)))) < 0 then ((psalterylaw19_knows.f).bind fun t102 => (some t102)) else ((dgram_Short.f x0 x2).bind fun t103 => ((dgram_Whole.f (wrap64 ((wrap64 (x0 + (wrap64 (Int.tmod (IntKind.u64.wrap (x1)) (IntKind.u64.wrap (wrap64 ((wrap64 (2 * (shl .i64 1 (wrap64 (x2 - 1))))) - 1))))))) - (wrap64 ((shl .i64 1 (wrap64 (x2 - 1))) - 1)))) t103 x2).bind fun bt104 => (if bt104.1 = x0 then (if bt104.2 = 0 then ((psalterylaw19_knows.f).bind fun t106 => (some t106)) else (some false)) else (some false)))))) else (none))
def psalterylaw19_GramFinds.f (k : Nat) (a0 : Int) (a1 : Int) (a2 : Int) : Option (Bool) := if a2 < 2 then (psalterylaw19_GramFinds.j0 k a0 a1 a2 true) else (if a2 > 32 then (psalterylaw19_GramFinds.j0 k a0 a1 a2 true) else (if a0 < 0 then (psalterylaw19_GramFinds.j0 k a0 a1 a2 true) else (psalterylaw19_GramFinds.j0 k a0 a1 a2 (decide (a0 > 549755813888)))))
theorem psalterylaw19_GramFinds.mono_l : ∀ k, (∀ y0 y1 y2 y3, LeO (psalterylaw19_GramFinds.j0 k y0 y1 y2 y3) (psalterylaw19_GramFinds.j0 (k + 1) y0 y1 y2 y3))
  | 0 => fun _ _ _ _ r h => by simp [psalterylaw19_GramFinds.j0] at h
  | k + 1 => by
    have ih0 := psalterylaw19_GramFinds.mono_l k
    · intro y0 y1 y2 y3
      unfold psalterylaw19_GramFinds.j0
      repeat' first
      | (with_reducible exact ih0 _ _ _ _)
      | (with_reducible exact LeO.refl _)
      | (with_reducible exact LeO.none _)
      | (with_reducible refine LeO.ite ?_ ?_)
      | (with_reducible refine LeO.bind ?_ (fun _ => ?_))
      | exact ih0 _ _ _ _
      | exact LeO.none _
      | refine LeO.ite ?_ ?_
      | refine LeO.bind ?_ (fun _ => ?_)
theorem psalterylaw19_GramFinds.mono : ∀ a0 a1 a2 k, LeO (psalterylaw19_GramFinds.f k a0 a1 a2) (psalterylaw19_GramFinds.f (k + 1) a0 a1 a2) := by
  intro a0 a1 a2 k
  have ih0 := psalterylaw19_GramFinds.mono_l k
  unfold psalterylaw19_GramFinds.f
  repeat' first
      | (with_reducible exact ih0 _ _ _ _)
      | (with_reducible exact LeO.refl _)
      | (with_reducible exact LeO.none _)
      | (with_reducible refine LeO.ite ?_ ?_)
      | (with_reducible refine LeO.bind ?_ (fun _ => ?_))
      | exact ih0 _ _ _ _
      | exact LeO.none _
      | refine LeO.ite ?_ ?_
      | refine LeO.bind ?_ (fun _ => ?_)
set_option maxHeartbeats 8000000 in
set_option maxRecDepth 100000 in
theorem psalterylaw19_GramFinds.calls (k : Nat) (a0 : Int) (a1 : Int) (a2 : Int) (r : Bool) (w : World) (h : psalterylaw19_GramFinds.f k a0 a1 a2 = some r) :
    Calls Try.prog 15 #[.int .i64 a0, .int .i64 a1, .int .i64 a2] w fun e w' => e = .returned (.bool r) ∧ Below w.heap.size w w' := by
  have HB := Aside0.mk (Below.refl w.heap.size w)
  have H : (if a2 < 2 then (psalterylaw19_GramFinds.j0 k a0 a1 a2 true) else (if a2 > 32 then (psalterylaw19_GramFinds.j0 k a0 a1 a2 true) else (if a0 < 0 then (psalterylaw19_GramFinds.j0 k a0 a1 a2 true) else (psalterylaw19_GramFinds.j0 k a0 a1 a2 (decide (a0 > 549755813888)))))) = some r := h
  clear h
  have HC4 := Aside0.mk H
  clear H
  go_enter Try.func15, Try.ntmps15
  go_upto_region 1 with (fail)
  go_cut [24] (fun v24 wc => ∃ (kq : Nat) (x24_3 : Bool), v24 = .bool x24_3 ∧ Aside0 (psalterylaw19_GramFinds.j0 kq a0 a1 a2 x24_3 = some r) ∧ Aside0 (kq ≤ k) ∧ Aside0 (Below w.heap.size w wc))
  case first =>
    have H := HC4.out
    clear HC4
    by_cases c5 : a2 < 2
    · rw [if_pos c5] at H
      have c5b0 : decide (a2 < 2) = true := decide_eq_true c5
      clear c5
      (first | rw [c5b0] | (simp only [i64_w, i32_w]; rw [c5b0]) | skip)
      have H' := Aside0.mk H
      clear H
      go_wp2
      go_meet
      case rel => exact ⟨_, (true), (by first | rfl | (simp; done) | (simp [*]; done)), H', ⟨by first | omega | exact Nat.le_refl _⟩, ⟨by repeat (first | (with_reducible first | exact HB.out | apply below_alloc | apply pw_below_drewN | apply below_drew1) | exact HB.out)⟩⟩
    · rw [if_neg c5] at H
      have c5b0 : decide (a2 < 2) = false := decide_eq_false c5
      clear c5
      (first | rw [c5b0] | (simp only [i64_w, i32_w]; rw [c5b0]) | skip)
      by_cases c6 : a2 > 32
      · rw [if_pos c6] at H
        have c6b0 : decide (32 < a2) = true := decide_eq_true c6
        clear c6
        have H' := Aside0.mk H
        clear H
        go_wp2
        go_meet
        case rel => exact ⟨_, (true), (by first | rfl | (simp; done) | (simp [*]; done)), H', ⟨by first | omega | exact Nat.le_refl _⟩, ⟨by repeat (first | (with_reducible first | exact HB.out | apply below_alloc | apply pw_below_drewN | apply below_drew1) | exact HB.out)⟩⟩
      · rw [if_neg c6] at H
        have c6b0 : decide (32 < a2) = false := decide_eq_false c6
        clear c6
        by_cases c7 : a0 < 0
        · rw [if_pos c7] at H
          have c7b0 : decide (a0 < 0) = true := decide_eq_true c7
          clear c7
          have H' := Aside0.mk H
          clear H
          go_wp2
          go_meet
          case rel => exact ⟨_, (true), (by first | rfl | (simp; done) | (simp [*]; done)), H', ⟨by first | omega | exact Nat.le_refl _⟩, ⟨by repeat (first | (with_reducible first | exact HB.out | apply below_alloc | apply pw_below_drewN | apply below_drew1) | exact HB.out)⟩⟩
        · rw [if_neg c7] at H
          have c7b0 : decide (a0 < 0) = false := decide_eq_false c7
          clear c7
          have H' := Aside0.mk H
          clear H
          go_wp2
          go_meet
          case rel => exact ⟨_, (decide (a0 > 549755813888)), (by first | rfl | (simp; done) | (simp [*]; done)), H', ⟨by first | omega | exact Nat.le_refl _⟩, ⟨by repeat (first | (with_reducible first | exact HB.out | apply below_alloc | apply pw_below_drewN | apply below_drew1) | exact HB.out)⟩⟩
  case rest =>
    clear HC4
    try clear c1
    try clear p2
    try clear c5
    try clear c5b0
    try clear c6
    try clear c6b0
    try clear c7
    try clear c7b0
    obtain ⟨kq, x24_3, rfl, HA, HJ3, HB⟩ := hcut
    cases kq with
    | zero => exact absurd HA.out (by simp [psalterylaw19_GramFinds.j0])
    | succ kj3 =>
      have H := HA.out
      clear HA
      simp only [psalterylaw19_GramFinds.j0] at H
      by_cases c8 : x24_3 = true
      · subst c8
        have H1 : ((psalterylaw19_knows.f).bind fun t101 => (some t101)) = some r := by rw [if_pos rfl] at H; exact H
        clear H
        have H := H1
        clear H1
        replace H := Option.bind_eq_some_iff.mp H
        obtain ⟨t101, A90, H⟩ := H
        replace H : (some t101) = some r := H
        have A9 := Aside0.mk A90
        clear A90
        obtain rfl := Option.some.inj H
        go_wp2_with (first | ((with_reducible refine gate_callee (f := 40) rfl ?_); refine goesL_ (some 25) rfl rfl Try.func40 (by kernel_rfl) rfl #[] rfl (by (try simp only [List.map_toArray, List.map_cons, List.map_nil]); first | done | rfl | (simp only [List.length_drop, List.length_take]; rfl)) ?_; (with_reducible refine (psalterylaw19_knows.calls  t101 _ A9.out).mono ?_); rintro e w10 ⟨rfl, hb⟩; refine ⟨_, rfl, ?_⟩; have n0_ := Aside0.mk (below_step (by repeat (first | (with_reducible first | exact HB.out | apply below_alloc | apply pw_below_drewN | apply below_drew1) | exact HB.out)) hb); clear HB; have HB := n0_; clear n0_; (try clear hb); (try clear hb2); (try clear hk); (try clear hi)))
        go_ret
        exact ⟨by first | rfl | (simp [errW_none, errW_some] <;> rfl) | (simp [*, errW_none, errW_some] <;> rfl), by repeat (first | (with_reducible first | exact HB.out | apply below_alloc | apply pw_below_drewN | apply below_drew1) | exact HB.out)⟩
      · replace c8 := Bool.eq_false_iff.mpr c8
        subst c8
        have H1 : (if 0 ≤ (wrap64 (a2 - 1)) then (if (IntKind.u64.wrap (wrap64 ((wrap64 (2 * (shl .i64 1 (wrap64 (a2 - 1))))) - 1))) = 0 then (none) else (if (wrap64 ((wrap64 (a0 + (wrap64 (Int.tmod (IntKind.u64.wrap (a1)) (IntKind.u64.wrap (wrap64 ((wrap64 (2 * (shl .i64 1 (wrap64 (a2 - 1))))) - 1))))))) - (wrap64 ((shl .i64 1 (wrap64 (a2 - 1))) - 1)))) < 0 then ((psalterylaw19_knows.f).bind fun t102 => (some t102)) else ((dgram_Short.f a0 a2).bind fun t103 => ((dgram_Whole.f (wrap64 ((wrap64 (a0 + (wrap64 (Int.tmod (IntKind.u64.wrap (a1)) (IntKind.u64.wrap (wrap64 ((wrap64 (2 * (shl .i64 1 (wrap64 (a2 - 1))))) - 1))))))) - (wrap64 ((shl .i64 1 (wrap64 (a2 - 1))) - 1)))) t103 a2).bind fun bt104 => (if bt104.1 = a0 then (if bt104.2 = 0 then ((psalterylaw19_knows.f).bind fun t106 => (some t106)) else (some false)) else (some false)))))) else (none)) = some r := by rw [if_neg (show ¬ (false = true) by decide)] at H; exact H
        clear H
        have H := H1
        clear H1
        obtain ⟨ji11, hji11⟩ : ∃ j_ : Int, (wrap64 (a2 - 1)) = j_ := ⟨_, rfl⟩
        replace H : (if 0 ≤ (ji11) then (if (IntKind.u64.wrap (wrap64 ((wrap64 (2 * (shl .i64 1 (ji11)))) - 1))) = 0 then (none) else (if (wrap64 ((wrap64 (a0 + (wrap64 (Int.tmod (IntKind.u64.wrap (a1)) (IntKind.u64.wrap (wrap64 ((wrap64 (2 * (shl .i64 1 (ji11)))) - 1))))))) - (wrap64 ((shl .i64 1 (ji11)) - 1)))) < 0 then ((psalterylaw19_knows.f).bind fun t102 => (some t102)) else ((dgram_Short.f a0 a2).bind fun t103 => ((dgram_Whole.f (wrap64 ((wrap64 (a0 + (wrap64 (Int.tmod (IntKind.u64.wrap (a1)) (IntKind.u64.wrap (wrap64 ((wrap64 (2 * (shl .i64 1 (ji11)))) - 1))))))) - (wrap64 ((shl .i64 1 (ji11)) - 1)))) t103 a2).bind fun bt104 => (if bt104.1 = a0 then (if bt104.2 = 0 then ((psalterylaw19_knows.f).bind fun t106 => (some t106)) else (some false)) else (some false)))))) else (none)) = some r := by first | (rw [hji11] at H; exact H) | (simp only [hji11] at H ⊢; exact H)
        have hji11w : (IntKind.i64.wrap (a2 - 1)) = ji11 := (i64_w _).trans hji11
        by_cases c12 : 0 ≤ (ji11)
        · rw [if_pos c12] at H
          have c12b0 := eq_true c12
          have c12b1 : decide (0 ≤ (ji11)) = true := decide_eq_true c12
          clear c12
          obtain ⟨ji13, hji13⟩ : ∃ j_ : Int, (shl .i64 1 (ji11)) = j_ := ⟨_, rfl⟩
          replace H : (if (IntKind.u64.wrap (wrap64 ((wrap64 (2 * (ji13))) - 1))) = 0 then (none) else (if (wrap64 ((wrap64 (a0 + (wrap64 (Int.tmod (IntKind.u64.wrap (a1)) (IntKind.u64.wrap (wrap64 ((wrap64 (2 * (ji13))) - 1))))))) - (wrap64 ((ji13) - 1)))) < 0 then ((psalterylaw19_knows.f).bind fun t102 => (some t102)) else ((dgram_Short.f a0 a2).bind fun t103 => ((dgram_Whole.f (wrap64 ((wrap64 (a0 + (wrap64 (Int.tmod (IntKind.u64.wrap (a1)) (IntKind.u64.wrap (wrap64 ((wrap64 (2 * (ji13))) - 1))))))) - (wrap64 ((ji13) - 1)))) t103 a2).bind fun bt104 => (if bt104.1 = a0 then (if bt104.2 = 0 then ((psalterylaw19_knows.f).bind fun t106 => (some t106)) else (some false)) else (some false)))))) = some r := by first | (rw [hji13] at H; exact H) | (simp only [hji13] at H ⊢; exact H)
          have hji13_ : (IntKind.i64.wrap (1 * 2 ^ min (ji11).toNat 64)) = ji13 := hji13
          have hji13z : (ji11) ≤ 64 → (IntKind.i64.wrap (1 * 2 ^ (ji11).toNat)) = ji13 := shl_small hji13
          have hji13u : (IntKind.i64.wrap (2 ^ min (ji11).toNat 64)) = ji13 := by have h_ := hji13_; rw [Int.one_mul] at h_; exact h_
          have hji13v : (ji11) ≤ 64 → (IntKind.i64.wrap (2 ^ (ji11).toNat)) = ji13 := fun hle_ => by have h_ := hji13z hle_; rw [Int.one_mul] at h_; exact h_
          have hji13y : (wrap64 (1 * 2 ^ min (ji11).toNat 64)) = ji13 := (i64_w _).symm.trans hji13_
          have hji13x : (ji11) ≤ 64 → (wrap64 (1 * 2 ^ (ji11).toNat)) = ji13 := fun h_ => (i64_w _).symm.trans (hji13z h_)
          by_cases c14 : (IntKind.u64.wrap (wrap64 ((wrap64 (2 * (ji13))) - 1))) = 0
          · rw [if_pos c14] at H
            exact absurd H (by simp)
          · rw [if_neg c14] at H
            have c14b0 : ((IntKind.u64.wrap (wrap64 ((wrap64 (2 * (ji13))) - 1))) == 0) = false := beq_eq_false_iff_ne.mpr c14
            have c14b1 : ((IntKind.u64.wrap (wrap64 ((wrap64 (2 * (ji13))) - 1))) != 0) = true := bne_iff_ne.mpr c14
            by_cases c15 : (wrap64 ((wrap64 (a0 + (wrap64 (Int.tmod (IntKind.u64.wrap (a1)) (IntKind.u64.wrap (wrap64 ((wrap64 (2 * (ji13))) - 1))))))) - (wrap64 ((ji13) - 1)))) < 0
            · rw [if_pos c15] at H
              have c15b0 : decide ((wrap64 ((wrap64 (a0 + (wrap64 (Int.tmod (IntKind.u64.wrap (a1)) (IntKind.u64.wrap (wrap64 ((wrap64 (2 * (ji13))) - 1))))))) - (wrap64 ((ji13) - 1)))) < 0) = true := decide_eq_true c15
              clear c15
              replace H := Option.bind_eq_some_iff.mp H
              obtain ⟨t102, A160, H⟩ := H
              replace H : (some t102) = some r := H
              have A16 := Aside0.mk A160
              clear A160
              obtain rfl := Option.some.inj H
              go_wp2_with (first | ((with_reducible refine gate_callee (f := 40) rfl ?_); refine goesL_ (some 44) rfl rfl Try.func40 (by kernel_rfl) rfl #[] rfl (by (try simp only [List.map_toArray, List.map_cons, List.map_nil]); first | done | rfl | (simp only [List.length_drop, List.length_take]; rfl)) ?_; (with_reducible refine (psalterylaw19_knows.calls  t102 _ A16.out).mono ?_); rintro e w17 ⟨rfl, hb⟩; refine ⟨_, rfl, ?_⟩; have n0_ := Aside0.mk (below_step (by repeat (first | (with_reducible first | exact HB.out | apply below_alloc | apply pw_below_drewN | apply below_drew1) | exact HB.out)) hb); clear HB; have HB := n0_; clear n0_; (try clear hb); (try clear hb2); (try clear hk); (try clear hi)))
              go_ret
              exact ⟨by first | rfl | (simp [errW_none, errW_some] <;> rfl) | (simp only [← hji11, ← hji13]; first | rfl | (simp [errW_none, errW_some] <;> rfl)) | (simp [*, errW_none, errW_some] <;> rfl), by repeat (first | (with_reducible first | exact HB.out | apply below_alloc | apply pw_below_drewN | apply below_drew1) | exact HB.out)⟩
            · rw [if_neg c15] at H
              have c15b0 : decide ((wrap64 ((wrap64 (a0 + (wrap64 (Int.tmod (IntKind.u64.wrap (a1)) (IntKind.u64.wrap (wrap64 ((wrap64 (2 * (ji13))) - 1))))))) - (wrap64 ((ji13) - 1)))) < 0) = false := decide_eq_false c15
              clear c15
              replace H := Option.bind_eq_some_iff.mp H
              obtain ⟨t103, A180, H⟩ := H
              replace H : ((dgram_Whole.f (wrap64 ((wrap64 (a0 + (wrap64 (Int.tmod (IntKind.u64.wrap (a1)) (IntKind.u64.wrap (wrap64 ((wrap64 (2 * (ji13))) - 1))))))) - (wrap64 ((ji13) - 1)))) t103 a2).bind fun bt104 => (if bt104.1 = a0 then (if bt104.2 = 0 then ((psalterylaw19_knows.f).bind fun t106 => (some t106)) else (some false)) else (some false))) = some r := H
              have A18 := Aside0.mk A180
              clear A180
              replace H := Option.bind_eq_some_iff.mp H
              obtain ⟨⟨t104, t105⟩, A190, H⟩ := H
              replace H : (if t104 = a0 then (if t105 = 0 then ((psalterylaw19_knows.f).bind fun t106 => (some t106)) else (some false)) else (some false)) = some r := H
              have A19 := Aside0.mk A190
              clear A190
              by_cases c20 : t104 = a0
              · rw [if_pos c20] at H
                have c20b0 : (t104 == a0) = true := beq_iff_eq.mpr c20
                have c20b1 : (t104 != a0) = false := bne_eq_false_iff_eq.mpr c20
                clear c20
                by_cases c21 : t105 = 0
                · rw [if_pos c21] at H
                  have c21b0 : (t105 == 0) = true := beq_iff_eq.mpr c21
                  have c21b1 : (t105 != 0) = false := bne_eq_false_iff_eq.mpr c21
                  clear c21
                  replace H := Option.bind_eq_some_iff.mp H
                  obtain ⟨t106, A220, H⟩ := H
                  replace H : (some t106) = some r := H
                  have A22 := Aside0.mk A220
                  clear A220
                  obtain rfl := Option.some.inj H
                  go_wp2_with (first | ((with_reducible refine gate_callee (f := 49) rfl ?_); refine goesL_ (some 49) rfl rfl Try.func49 (by kernel_rfl) rfl #[.int .i64 a0, .int .i64 a2] rfl (by (try simp only [List.map_toArray, List.map_cons, List.map_nil]); first | done | rfl | (simp only [List.length_drop, List.length_take]; rfl)) ?_; (with_reducible refine (dgram_Short.calls a0 a2 t103 _ A18.out).mono ?_); rintro e w' ⟨rfl, ⟨nd, rfl⟩⟩; refine ⟨_, rfl, ?_⟩) | ((with_reducible refine gate_callee (f := 51) rfl ?_); refine goesL_ (some 51) rfl rfl Try.func51 (by kernel_rfl) rfl #[.int .i64 (wrap64 ((wrap64 (a0 + (wrap64 (Int.tmod (IntKind.u64.wrap (a1)) (IntKind.u64.wrap (wrap64 ((wrap64 (2 * (ji13))) - 1))))))) - (wrap64 ((ji13) - 1)))), .int .i64 t103, .int .i64 a2] rfl (by (try simp only [List.map_toArray, List.map_cons, List.map_nil]); first | done | (simp only [hji13]; rfl) | rfl | (simp only [List.length_drop, List.length_take]; rfl)) ?_; (with_reducible refine (dgram_Whole.calls (wrap64 ((wrap64 (a0 + (wrap64 (Int.tmod (IntKind.u64.wrap (a1)) (IntKind.u64.wrap (wrap64 ((wrap64 (2 * (ji13))) - 1))))))) - (wrap64 ((ji13) - 1)))) t103 a2 t104 t105 _ A19.out).mono ?_); rintro e w' ⟨rfl, ⟨nd, rfl⟩⟩; refine ⟨_, rfl, ?_⟩) | (go_at_call 40; (with_reducible refine (psalterylaw19_knows.calls  t106 _ A22.out).mono ?_); rintro e w23 ⟨rfl, hb⟩; have n0_ := Aside0.mk (below_step (by repeat (first | (with_reducible first | exact HB.out | apply below_alloc | apply pw_below_drewN | apply below_drew1) | exact HB.out)) hb); clear HB; have HB := n0_; clear n0_; (try clear hb); (try clear hb2); (try clear hk); (try clear hi)))
                  go_ret
                  exact ⟨by first | rfl | (simp [errW_none, errW_some] <;> rfl) | (simp only [← hji11, ← hji13]; first | rfl | (simp [errW_none, errW_some] <;> rfl)) | (simp [*, errW_none, errW_some] <;> rfl), by repeat (first | (with_reducible first | exact HB.out | apply below_alloc | apply pw_below_drewN | apply below_drew1) | exact HB.out)⟩
                · rw [if_neg c21] at H
                  have c21b0 : (t105 == 0) = false := beq_eq_false_iff_ne.mpr c21
                  have c21b1 : (t105 != 0) = true := bne_iff_ne.mpr c21
                  obtain rfl := Option.some.inj H
                  go_wp2_with (first | ((with_reducible refine gate_callee (f := 49) rfl ?_); refine goesL_ (some 49) rfl rfl Try.func49 (by kernel_rfl) rfl #[.int .i64 a0, .int .i64 a2] rfl (by (try simp only [List.map_toArray, List.map_cons, List.map_nil]); first | done | rfl | (simp only [List.length_drop, List.length_take]; rfl)) ?_; (with_reducible refine (dgram_Short.calls a0 a2 t103 _ A18.out).mono ?_); rintro e w' ⟨rfl, ⟨nd, rfl⟩⟩; refine ⟨_, rfl, ?_⟩) | ((with_reducible refine gate_callee (f := 51) rfl ?_); refine goesL_ (some 51) rfl rfl Try.func51 (by kernel_rfl) rfl #[.int .i64 (wrap64 ((wrap64 (a0 + (wrap64 (Int.tmod (IntKind.u64.wrap (a1)) (IntKind.u64.wrap (wrap64 ((wrap64 (2 * (ji13))) - 1))))))) - (wrap64 ((ji13) - 1)))), .int .i64 t103, .int .i64 a2] rfl (by (try simp only [List.map_toArray, List.map_cons, List.map_nil]); first | done | (simp only [hji13]; rfl) | rfl | (simp only [List.length_drop, List.length_take]; rfl)) ?_; (with_reducible refine (dgram_Whole.calls (wrap64 ((wrap64 (a0 + (wrap64 (Int.tmod (IntKind.u64.wrap (a1)) (IntKind.u64.wrap (wrap64 ((wrap64 (2 * (ji13))) - 1))))))) - (wrap64 ((ji13) - 1)))) t103 a2 t104 t105 _ A19.out).mono ?_); rintro e w' ⟨rfl, ⟨nd, rfl⟩⟩; refine ⟨_, rfl, ?_⟩))
                  go_ret
                  exact ⟨by first | rfl | (simp [errW_none, errW_some] <;> rfl) | (simp only [← hji11, ← hji13]; first | rfl | (simp [errW_none, errW_some] <;> rfl)) | (simp [*, errW_none, errW_some] <;> rfl), by repeat (first | (with_reducible first | exact HB.out | apply below_alloc | apply pw_below_drewN | apply below_drew1) | exact HB.out)⟩
              · rw [if_neg c20] at H
                have c20b0 : (t104 == a0) = false := beq_eq_false_iff_ne.mpr c20
                have c20b1 : (t104 != a0) = true := bne_iff_ne.mpr c20
                obtain rfl := Option.some.inj H
                go_wp2_with (first | ((with_reducible refine gate_callee (f := 49) rfl ?_); refine goesL_ (some 49) rfl rfl Try.func49 (by kernel_rfl) rfl #[.int .i64 a0, .int .i64 a2] rfl (by (try simp only [List.map_toArray, List.map_cons, List.map_nil]); first | done | rfl | (simp only [List.length_drop, List.length_take]; rfl)) ?_; (with_reducible refine (dgram_Short.calls a0 a2 t103 _ A18.out).mono ?_); rintro e w' ⟨rfl, ⟨nd, rfl⟩⟩; refine ⟨_, rfl, ?_⟩) | ((with_reducible refine gate_callee (f := 51) rfl ?_); refine goesL_ (some 51) rfl rfl Try.func51 (by kernel_rfl) rfl #[.int .i64 (wrap64 ((wrap64 (a0 + (wrap64 (Int.tmod (IntKind.u64.wrap (a1)) (IntKind.u64.wrap (wrap64 ((wrap64 (2 * (ji13))) - 1))))))) - (wrap64 ((ji13) - 1)))), .int .i64 t103, .int .i64 a2] rfl (by (try simp only [List.map_toArray, List.map_cons, List.map_nil]); first | done | (simp only [hji13]; rfl) | rfl | (simp only [List.length_drop, List.length_take]; rfl)) ?_; (with_reducible refine (dgram_Whole.calls (wrap64 ((wrap64 (a0 + (wrap64 (Int.tmod (IntKind.u64.wrap (a1)) (IntKind.u64.wrap (wrap64 ((wrap64 (2 * (ji13))) - 1))))))) - (wrap64 ((ji13) - 1)))) t103 a2 t104 t105 _ A19.out).mono ?_); rintro e w' ⟨rfl, ⟨nd, rfl⟩⟩; refine ⟨_, rfl, ?_⟩))
                go_ret
                exact ⟨by first | rfl | (simp [errW_none, errW_some] <;> rfl) | (simp only [← hji11, ← hji13]; first | rfl | (simp [errW_none, errW_some] <;> rfl)) | (simp [*, errW_none, errW_some] <;> rfl), by repeat (first | (with_reducible first | exact HB.out | apply below_alloc | apply pw_below_drewN | apply below_drew1) | exact HB.out)⟩
        · rw [if_neg c12] at H
          exact absurd H (by simp)

/-- THE ONE PURE STATEMENT of psalterylaw19_GramFinds: yours. -/
def psalterylaw19_GramFinds.Pure : Prop := ∀ (a0 : Int) (a1 : Int) (a2 : Int), (Lit.int .i64 a0).wf = true → (Lit.int .i64 a1).wf = true → (Lit.int .i64 a2).wf = true → ∃ k, psalterylaw19_GramFinds.f k a0 a1 a2 = some true
theorem psalterylaw19_GramFinds.walk (P : psalterylaw19_GramFinds.Pure) (a0 : Int) (a1 : Int) (a2 : Int) (w : World) (w0 : (Lit.int .i64 a0).wf = true) (w1 : (Lit.int .i64 a1).wf = true) (w2 : (Lit.int .i64 a2).wf = true) :
    Calls Try.prog 15 #[.int .i64 a0, .int .i64 a1, .int .i64 a2] w fun e w' => e = .returned (.bool true) ∧ Below w.heap.size w w' := by
  obtain ⟨k, h⟩ := P a0 a1 a2 w0 w1 w2
  refine (psalterylaw19_GramFinds.calls k a0 a1 a2 true w h).mono ?_
  rintro e w' ⟨rfl, hd⟩
  exact ⟨rfl, hd⟩

end Go.Proofs.Yteoclecadpapfaa.G
