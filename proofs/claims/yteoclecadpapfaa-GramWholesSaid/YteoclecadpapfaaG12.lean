/- What a call of psaltery/psalterylaw19.GramWholes does, told by a plain Lean function of its arguments. Written by a program for this claim. -/
import Derived.Test.YteoclecadpapfaaG0
import Derived.Test.YteoclecadpapfaaG40
import Derived.Test.YteoclecadpapfaaG49
import Derived.Test.YteoclecadpapfaaG50
import Derived.Test.YteoclecadpapfaaG51
import Derived.Test.YteoclecadpapfaaG52
import Derived.Test.YteoclecadpapfaaG53
namespace Go.Proofs.Yteoclecadpapfaa.G
open Go.RowKit Go.Proofs.YteoclecadpapfaaW.PrintWords Go.Proofs.YteoclecadpapfaaW.PrintLast Go.Proofs.YteoclecadpapfaaW.PrintMore
attribute [local go_sem] max2_int min2_int max_two min_two max_three min_three max_four min_four
set_option linter.unusedVariables false
set_option linter.unusedSimpArgs false

/-! ### psalterylaw19_GramWholes: function 12 -/
def psalterylaw19_GramWholes.j0 : Nat → Int → Int → Int → Int → Int → Bool → Option (Bool)
  | 0, _, _, _, _, _, _ => none
  | k + 1, x0, x1, x2, x7, x8, x35 => if x35 = true then (if x7 = 0 then (if x8 = 1 then ((psalterylaw19_knows.f).bind fun t106 => (some t106)) else (some false)) else (some false)) else ((psalteryref19_Whole.f x0 x1 x2).bind fun t107 => (if x7 = t107 then (if x8 = 0 then ((psalterylaw19_knows.f).bind fun t108 => (some t108)) else (some false)) else (some false)))
def psalterylaw19_GramWholes.f (k : Nat) (a0 : Int) (a1 : Int) (a2 : Int) : Option (Bool) := (dgram_Short.f a0 a2).bind fun t101 => ((psalteryref19_Short.f a0 a2).bind fun t102 => (if t101 = t102 then ((dgram_Whole.f a0 a1 a2).bind fun bt103 => (if a2 < 1 then (psalterylaw19_GramWholes.j0 k a0 a1 a2 bt103.1 bt103.2 true) else (if a2 > 32 then (psalterylaw19_GramWholes.j0 k a0 a1 a2 bt103.1 bt103.2 true) else ((psalteryref19_Fair.f a0 a1 a2).bind fun t105 => (psalterylaw19_GramWholes.j0 k a0 a1 a2 bt103.1 bt103.2 (!t105)))))) else (some false)))
theorem psalterylaw19_GramWholes.mono_l : ∀ k, (∀ y0 y1 y2 y3 y4 y5, LeO (psalterylaw19_GramWholes.j0 k y0 y1 y2 y3 y4 y5) (psalterylaw19_GramWholes.j0 (k + 1) y0 y1 y2 y3 y4 y5))
  | 0 => fun _ _ _ _ _ _ r h => by simp [psalterylaw19_GramWholes.j0] at h
  | k + 1 => by
    have ih0 := psalterylaw19_GramWholes.mono_l k
    · intro y0 y1 y2 y3 y4 y5
      unfold psalterylaw19_GramWholes.j0
      repeat' first
      | (with_reducible exact ih0 _ _ _ _ _ _)
      | (with_reducible exact LeO.refl _)
      | (with_reducible exact LeO.none _)
      | (with_reducible refine LeO.ite ?_ ?_)
      | (with_reducible refine LeO.bind ?_ (fun _ => ?_))
      | exact ih0 _ _ _ _ _ _
      | exact LeO.none _
      | refine LeO.ite ?_ ?_
      | refine LeO.bind ?_ (fun _ => ?_)
theorem psalterylaw19_GramWholes.mono : ∀ a0 a1 a2 k, LeO (psalterylaw19_GramWholes.f k a0 a1 a2) (psalterylaw19_GramWholes.f (k + 1) a0 a1 a2) := by
  intro a0 a1 a2 k
  have ih0 := psalterylaw19_GramWholes.mono_l k
  unfold psalterylaw19_GramWholes.f
  repeat' first
      | (with_reducible exact ih0 _ _ _ _ _ _)
      | (with_reducible exact LeO.refl _)
      | (with_reducible exact LeO.none _)
      | (with_reducible refine LeO.ite ?_ ?_)
      | (with_reducible refine LeO.bind ?_ (fun _ => ?_))
      | exact ih0 _ _ _ _ _ _
      | exact LeO.none _
      | refine LeO.ite ?_ ?_
      | refine LeO.bind ?_ (fun _ => ?_)
set_option maxHeartbeats 8000000 in
set_option maxRecDepth 100000 in
theorem psalterylaw19_GramWholes.calls (k : Nat) (a0 : Int) (a1 : Int) (a2 : Int) (r : Bool) (w : World) (h : psalterylaw19_GramWholes.f k a0 a1 a2 = some r) :
    Calls Try.prog 12 #[.int .i64 a0, .int .i64 a1, .int .i64 a2] w fun e w' => e = .returned (.bool r) ∧ Below w.heap.size w w' := by
  have HB := Aside0.mk (Below.refl w.heap.size w)
  have H : ((dgram_Short.f a0 a2).bind fun t101 => ((psalteryref19_Short.f a0 a2).bind fun t102 => (if t101 = t102 then ((dgram_Whole.f a0 a1 a2).bind fun bt103 => (if a2 < 1 then (psalterylaw19_GramWholes.j0 k a0 a1 a2 bt103.1 bt103.2 true) else (if a2 > 32 then (psalterylaw19_GramWholes.j0 k a0 a1 a2 bt103.1 bt103.2 true) else ((psalteryref19_Fair.f a0 a1 a2).bind fun t105 => (psalterylaw19_GramWholes.j0 k a0 a1 a2 bt103.1 bt103.2 (!t105)))))) else (some false)))) = some r := h
  clear h
  replace H := Option.bind_eq_some_iff.mp H
  obtain ⟨t101, A40, H⟩ := H
  replace H : ((psalteryref19_Short.f a0 a2).bind fun t102 => (if t101 = t102 then ((dgram_Whole.f a0 a1 a2).bind fun bt103 => (if a2 < 1 then (psalterylaw19_GramWholes.j0 k a0 a1 a2 bt103.1 bt103.2 true) else (if a2 > 32 then (psalterylaw19_GramWholes.j0 k a0 a1 a2 bt103.1 bt103.2 true) else ((psalteryref19_Fair.f a0 a1 a2).bind fun t105 => (psalterylaw19_GramWholes.j0 k a0 a1 a2 bt103.1 bt103.2 (!t105)))))) else (some false))) = some r := H
  have A4 := Aside0.mk A40
  clear A40
  replace H := Option.bind_eq_some_iff.mp H
  obtain ⟨t102, A50, H⟩ := H
  replace H : (if t101 = t102 then ((dgram_Whole.f a0 a1 a2).bind fun bt103 => (if a2 < 1 then (psalterylaw19_GramWholes.j0 k a0 a1 a2 bt103.1 bt103.2 true) else (if a2 > 32 then (psalterylaw19_GramWholes.j0 k a0 a1 a2 bt103.1 bt103.2 true) else ((psalteryref19_Fair.f a0 a1 a2).bind fun t105 => (psalterylaw19_GramWholes.j0 k a0 a1 a2 bt103.1 bt103.2 (!t105)))))) else (some false)) = some r := H
  have A5 := Aside0.mk A50
  clear A50
  by_cases c6 : t101 = t102
  · rw [if_pos c6] at H
    have c6b0 : (t101 == t102) = true := beq_iff_eq.mpr c6
    have c6b1 : (t101 != t102) = false := bne_eq_false_iff_eq.mpr c6
    clear c6
    replace H := Option.bind_eq_some_iff.mp H
    obtain ⟨⟨t103, t104⟩, A70, H⟩ := H
    replace H : (if a2 < 1 then (psalterylaw19_GramWholes.j0 k a0 a1 a2 t103 t104 true) else (if a2 > 32 then (psalterylaw19_GramWholes.j0 k a0 a1 a2 t103 t104 true) else ((psalteryref19_Fair.f a0 a1 a2).bind fun t105 => (psalterylaw19_GramWholes.j0 k a0 a1 a2 t103 t104 (!t105))))) = some r := H
    have A7 := Aside0.mk A70
    clear A70
    have HC8 := Aside0.mk H
    clear H
    go_enter Try.func12, Try.ntmps12
    go_upto_region 4 with (first | ((with_reducible refine gate_callee (f := 49) rfl ?_); refine goesL_ (some 11) rfl rfl Try.func49 (by kernel_rfl) rfl #[.int .i64 a0, .int .i64 a2] rfl (by (try simp only [List.map_toArray, List.map_cons, List.map_nil]); first | done | rfl | (simp only [List.length_drop, List.length_take]; rfl)) ?_; (with_reducible refine (dgram_Short.calls a0 a2 t101 _ A4.out).mono ?_); rintro e w' ⟨rfl, ⟨nd, rfl⟩⟩; refine ⟨_, rfl, ?_⟩) | ((with_reducible refine gate_callee (f := 50) rfl ?_); refine goesL_ (some 14) rfl rfl Try.func50 (by kernel_rfl) rfl #[.int .i64 a0, .int .i64 a2] rfl (by (try simp only [List.map_toArray, List.map_cons, List.map_nil]); first | done | rfl | (simp only [List.length_drop, List.length_take]; rfl)) ?_; (with_reducible refine (psalteryref19_Short.calls a0 a2 t102 _ A5.out).mono ?_); rintro e w' ⟨rfl, ⟨nd, rfl⟩⟩; refine ⟨_, rfl, ?_⟩) | ((with_reducible refine gate_callee (f := 51) rfl ?_); refine goesL_ (some 20) rfl rfl Try.func51 (by kernel_rfl) rfl #[.int .i64 a0, .int .i64 a1, .int .i64 a2] rfl (by (try simp only [List.map_toArray, List.map_cons, List.map_nil]); first | done | rfl | (simp only [List.length_drop, List.length_take]; rfl)) ?_; (with_reducible refine (dgram_Whole.calls a0 a1 a2 t103 t104 _ A7.out).mono ?_); rintro e w' ⟨rfl, ⟨nd, rfl⟩⟩; refine ⟨_, rfl, ?_⟩))
    (try simp only [Act.put, List.setIfInBounds_toArray, List.set_cons_zero, List.set_cons_succ])
    go_cut [35] (fun v35 wc => ∃ (kq : Nat) (x35_7 : Bool), v35 = .bool x35_7 ∧ Aside0 (psalterylaw19_GramWholes.j0 kq a0 a1 a2 t103 t104 x35_7 = some r) ∧ Aside0 (kq ≤ k) ∧ Aside0 (Below w.heap.size w wc))
    case first =>
      have H := HC8.out
      clear HC8
      by_cases c9 : a2 < 1
      · rw [if_pos c9] at H
        have c9b0 : decide (a2 < 1) = true := decide_eq_true c9
        clear c9
        (first | rw [c9b0] | (simp only [i64_w, i32_w]; rw [c9b0]) | skip)
        have H' := Aside0.mk H
        clear H
        go_wp2
        go_meet
        case rel => exact ⟨_, (true), (by first | rfl | (simp; done) | (simp [*]; done)), H', ⟨by first | omega | exact Nat.le_refl _⟩, ⟨by repeat (first | (with_reducible first | exact HB.out | apply below_alloc | apply pw_below_drewN | apply below_drew1) | exact HB.out)⟩⟩
      · rw [if_neg c9] at H
        have c9b0 : decide (a2 < 1) = false := decide_eq_false c9
        clear c9
        (first | rw [c9b0] | (simp only [i64_w, i32_w]; rw [c9b0]) | skip)
        by_cases c10 : a2 > 32
        · rw [if_pos c10] at H
          have c10b0 : decide (32 < a2) = true := decide_eq_true c10
          clear c10
          have H' := Aside0.mk H
          clear H
          go_wp2
          go_meet
          case rel => exact ⟨_, (true), (by first | rfl | (simp; done) | (simp [*]; done)), H', ⟨by first | omega | exact Nat.le_refl _⟩, ⟨by repeat (first | (with_reducible first | exact HB.out | apply below_alloc | apply pw_below_drewN | apply below_drew1) | exact HB.out)⟩⟩
        · rw [if_neg c10] at H
          have c10b0 : decide (32 < a2) = false := decide_eq_false c10
          clear c10
          replace H := Option.bind_eq_some_iff.mp H
          obtain ⟨t105, A110, H⟩ := H
          replace H : (psalterylaw19_GramWholes.j0 k a0 a1 a2 t103 t104 (!t105)) = some r := H
          have A11 := Aside0.mk A110
          clear A110
          have H' := Aside0.mk H
          clear H
          go_wp2_with (first | (go_at_call 52; (with_reducible refine (psalteryref19_Fair.calls a0 a1 a2 t105 _ A11.out).mono ?_); rintro e w' ⟨rfl, ⟨nd, rfl⟩⟩))
          go_meet
          case rel => exact ⟨_, (!t105), (by first | rfl | (simp; done) | (simp [*]; done)), H', ⟨by first | omega | exact Nat.le_refl _⟩, ⟨by repeat (first | (with_reducible first | exact HB.out | apply below_alloc | apply pw_below_drewN | apply below_drew1) | exact HB.out)⟩⟩
    case rest =>
      clear HC8
      try clear c1
      try clear p2
      try clear c4
      try clear c5
      try clear c6
      try clear c6b0
      try clear c6b1
      try clear c9
      try clear c9b0
      try clear c10
      try clear c10b0
      obtain ⟨kq, x35_7, rfl, HA, HJ7, HB⟩ := hcut
      cases kq with
      | zero => exact absurd HA.out (by simp [psalterylaw19_GramWholes.j0])
      | succ kj7 =>
        have H := HA.out
        clear HA
        simp only [psalterylaw19_GramWholes.j0] at H
        by_cases c12 : x35_7 = true
        · subst c12
          have H1 : (if t103 = 0 then (if t104 = 1 then ((psalterylaw19_knows.f).bind fun t106 => (some t106)) else (some false)) else (some false)) = some r := by rw [if_pos rfl] at H; exact H
          clear H
          have H := H1
          clear H1
          by_cases c13 : t103 = 0
          · rw [if_pos c13] at H
            have c13b0 : (t103 == 0) = true := beq_iff_eq.mpr c13
            have c13b1 : (t103 != 0) = false := bne_eq_false_iff_eq.mpr c13
            clear c13
            by_cases c14 : t104 = 1
            · rw [if_pos c14] at H
              have c14b0 : (t104 == 1) = true := beq_iff_eq.mpr c14
              have c14b1 : (t104 != 1) = false := bne_eq_false_iff_eq.mpr c14
              clear c14
              replace H := Option.bind_eq_some_iff.mp H
              obtain ⟨t106, A150, H⟩ := H
              replace H : (some t106) = some r := H
              have A15 := Aside0.mk A150
              clear A150
              obtain rfl := Option.some.inj H
              go_wp2_with (first | (go_at_call 40; (with_reducible refine (psalterylaw19_knows.calls  t106 _ A15.out).mono ?_); rintro e w16 ⟨rfl, hb⟩; have n0_ := Aside0.mk (below_step (by repeat (first | (with_reducible first | exact HB.out | apply below_alloc | apply pw_below_drewN | apply below_drew1) | exact HB.out)) hb); clear HB; have HB := n0_; clear n0_; (try clear hb); (try clear hb2); (try clear hk); (try clear hi)))
              go_ret
              exact ⟨by first | rfl | (simp [errW_none, errW_some] <;> rfl) | (simp [*, errW_none, errW_some] <;> rfl), by repeat (first | (with_reducible first | exact HB.out | apply below_alloc | apply pw_below_drewN | apply below_drew1) | exact HB.out)⟩
            · rw [if_neg c14] at H
              have c14b0 : (t104 == 1) = false := beq_eq_false_iff_ne.mpr c14
              have c14b1 : (t104 != 1) = true := bne_iff_ne.mpr c14
              obtain rfl := Option.some.inj H
              go_wp2
              go_ret
              exact ⟨by first | rfl | (simp [errW_none, errW_some] <;> rfl) | (simp [*, errW_none, errW_some] <;> rfl), by repeat (first | (with_reducible first | exact HB.out | apply below_alloc | apply pw_below_drewN | apply below_drew1) | exact HB.out)⟩
          · rw [if_neg c13] at H
            have c13b0 : (t103 == 0) = false := beq_eq_false_iff_ne.mpr c13
            have c13b1 : (t103 != 0) = true := bne_iff_ne.mpr c13
            obtain rfl := Option.some.inj H
            go_wp2
            go_ret
            exact ⟨by first | rfl | (simp [errW_none, errW_some] <;> rfl) | (simp [*, errW_none, errW_some] <;> rfl), by repeat (first | (with_reducible first | exact HB.out | apply below_alloc | apply pw_below_drewN | apply below_drew1) | exact HB.out)⟩
        · replace c12 := Bool.eq_false_iff.mpr c12
          subst c12
          have H1 : ((psalteryref19_Whole.f a0 a1 a2).bind fun t107 => (if t103 = t107 then (if t104 = 0 then ((psalterylaw19_knows.f).bind fun t108 => (some t108)) else (some false)) else (some false))) = some r := by rw [if_neg (show ¬ (false = true) by decide)] at H; exact H
          clear H
          have H := H1
          clear H1
          replace H := Option.bind_eq_some_iff.mp H
          obtain ⟨t107, A170, H⟩ := H
          replace H : (if t103 = t107 then (if t104 = 0 then ((psalterylaw19_knows.f).bind fun t108 => (some t108)) else (some false)) else (some false)) = some r := H
          have A17 := Aside0.mk A170
          clear A170
          by_cases c18 : t103 = t107
          · rw [if_pos c18] at H
            have c18b0 : (t103 == t107) = true := beq_iff_eq.mpr c18
            have c18b1 : (t103 != t107) = false := bne_eq_false_iff_eq.mpr c18
            clear c18
            by_cases c19 : t104 = 0
            · rw [if_pos c19] at H
              have c19b0 : (t104 == 0) = true := beq_iff_eq.mpr c19
              have c19b1 : (t104 != 0) = false := bne_eq_false_iff_eq.mpr c19
              clear c19
              replace H := Option.bind_eq_some_iff.mp H
              obtain ⟨t108, A200, H⟩ := H
              replace H : (some t108) = some r := H
              have A20 := Aside0.mk A200
              clear A200
              obtain rfl := Option.some.inj H
              go_wp2_with (first | ((with_reducible refine gate_callee (f := 53) rfl ?_); refine goesL_ (some 49) rfl rfl Try.func53 (by kernel_rfl) rfl #[.int .i64 a0, .int .i64 a1, .int .i64 a2] rfl (by (try simp only [List.map_toArray, List.map_cons, List.map_nil]); first | done | rfl | (simp only [List.length_drop, List.length_take]; rfl)) ?_; (with_reducible refine (psalteryref19_Whole.calls a0 a1 a2 t107 _ A17.out).mono ?_); rintro e w' ⟨rfl, ⟨nd, rfl⟩⟩; refine ⟨_, rfl, ?_⟩) | (go_at_call 40; (with_reducible refine (psalterylaw19_knows.calls  t108 _ A20.out).mono ?_); rintro e w21 ⟨rfl, hb⟩; have n0_ := Aside0.mk (below_step (by repeat (first | (with_reducible first | exact HB.out | apply below_alloc | apply pw_below_drewN | apply below_drew1) | exact HB.out)) hb); clear HB; have HB := n0_; clear n0_; (try clear hb); (try clear hb2); (try clear hk); (try clear hi)))
              go_ret
              exact ⟨by first | rfl | (simp [errW_none, errW_some] <;> rfl) | (simp [*, errW_none, errW_some] <;> rfl), by repeat (first | (with_reducible first | exact HB.out | apply below_alloc | apply pw_below_drewN | apply below_drew1) | exact HB.out)⟩
            · rw [if_neg c19] at H
              have c19b0 : (t104 == 0) = false := beq_eq_false_iff_ne.mpr c19
              have c19b1 : (t104 != 0) = true := bne_iff_ne.mpr c19
              obtain rfl := Option.some.inj H
              go_wp2_with (first | ((with_reducible refine gate_callee (f := 53) rfl ?_); refine goesL_ (some 49) rfl rfl Try.func53 (by kernel_rfl) rfl #[.int .i64 a0, .int .i64 a1, .int .i64 a2] rfl (by (try simp only [List.map_toArray, List.map_cons, List.map_nil]); first | done | rfl | (simp only [List.length_drop, List.length_take]; rfl)) ?_; (with_reducible refine (psalteryref19_Whole.calls a0 a1 a2 t107 _ A17.out).mono ?_); rintro e w' ⟨rfl, ⟨nd, rfl⟩⟩; refine ⟨_, rfl, ?_⟩))
              go_ret
              exact ⟨by first | rfl | (simp [errW_none, errW_some] <;> rfl) | (simp [*, errW_none, errW_some] <;> rfl), by repeat (first | (with_reducible first | exact HB.out | apply below_alloc | apply pw_below_drewN | apply below_drew1) | exact HB.out)⟩
          · rw [if_neg c18] at H
            have c18b0 : (t103 == t107) = false := beq_eq_false_iff_ne.mpr c18
            have c18b1 : (t103 != t107) = true := bne_iff_ne.mpr c18
            obtain rfl := Option.some.inj H
            go_wp2_with (first | ((with_reducible refine gate_callee (f := 53) rfl ?_); refine goesL_ (some 49) rfl rfl Try.func53 (by kernel_rfl) rfl #[.int .i64 a0, .int .i64 a1, .int .i64 a2] rfl (by (try simp only [List.map_toArray, List.map_cons, List.map_nil]); first | done | rfl | (simp only [List.length_drop, List.length_take]; rfl)) ?_; (with_reducible refine (psalteryref19_Whole.calls a0 a1 a2 t107 _ A17.out).mono ?_); rintro e w' ⟨rfl, ⟨nd, rfl⟩⟩; refine ⟨_, rfl, ?_⟩))
            go_ret
            exact ⟨by first | rfl | (simp [errW_none, errW_some] <;> rfl) | (simp [*, errW_none, errW_some] <;> rfl), by repeat (first | (with_reducible first | exact HB.out | apply below_alloc | apply pw_below_drewN | apply below_drew1) | exact HB.out)⟩
  · rw [if_neg c6] at H
    have c6b0 : (t101 == t102) = false := beq_eq_false_iff_ne.mpr c6
    have c6b1 : (t101 != t102) = true := bne_iff_ne.mpr c6
    obtain rfl := Option.some.inj H
    go_enter Try.func12, Try.ntmps12
    go_wp2_with (first | ((with_reducible refine gate_callee (f := 49) rfl ?_); refine goesL_ (some 11) rfl rfl Try.func49 (by kernel_rfl) rfl #[.int .i64 a0, .int .i64 a2] rfl (by (try simp only [List.map_toArray, List.map_cons, List.map_nil]); first | done | rfl | (simp only [List.length_drop, List.length_take]; rfl)) ?_; (with_reducible refine (dgram_Short.calls a0 a2 t101 _ A4.out).mono ?_); rintro e w' ⟨rfl, ⟨nd, rfl⟩⟩; refine ⟨_, rfl, ?_⟩) | ((with_reducible refine gate_callee (f := 50) rfl ?_); refine goesL_ (some 14) rfl rfl Try.func50 (by kernel_rfl) rfl #[.int .i64 a0, .int .i64 a2] rfl (by (try simp only [List.map_toArray, List.map_cons, List.map_nil]); first | done | rfl | (simp only [List.length_drop, List.length_take]; rfl)) ?_; (with_reducible refine (psalteryref19_Short.calls a0 a2 t102 _ A5.out).mono ?_); rintro e w' ⟨rfl, ⟨nd, rfl⟩⟩; refine ⟨_, rfl, ?_⟩))
    go_ret
    exact ⟨by first | rfl | (simp [errW_none, errW_some] <;> rfl) | (simp [*, errW_none, errW_some] <;> rfl), by repeat (first | (with_reducible first | exact HB.out | apply below_alloc | apply pw_below_drewN | apply below_drew1) | exact HB.out)⟩

/-- THE ONE PURE STATEMENT of psalterylaw19_GramWholes: yours. -/
def psalterylaw19_GramWholes.Pure : Prop := ∀ (a0 : Int) (a1 : Int) (a2 : Int), (Lit.int .i64 a0).wf = true → (Lit.int .i64 a1).wf = true → (Lit.int .i64 a2).wf = true → ∃ k, psalterylaw19_GramWholes.f k a0 a1 a2 = some true
theorem psalterylaw19_GramWholes.walk (P : psalterylaw19_GramWholes.Pure) (a0 : Int) (a1 : Int) (a2 : Int) (w : World) (w0 : (Lit.int .i64 a0).wf = true) (w1 : (Lit.int .i64 a1).wf = true) (w2 : (Lit.int .i64 a2).wf = true) :
    Calls Try.prog 12 #[.int .i64 a0, .int .i64 a1, .int .i64 a2] w fun e w' => e = .returned (.bool true) ∧ Below w.heap.size w w' := by
  obtain ⟨k, h⟩ := P a0 a1 a2 w0 w1 w2
  refine (psalterylaw19_GramWholes.calls k a0 a1 a2 true w h).mono ?_
  rintro e w' ⟨rfl, hd⟩
  exact ⟨rfl, hd⟩

end Go.Proofs.Yteoclecadpapfaa.G
