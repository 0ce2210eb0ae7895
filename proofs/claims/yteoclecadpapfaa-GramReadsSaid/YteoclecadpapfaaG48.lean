/- What a call of psaltery/psalteryref19.Read does, told by a plain Lean function of its arguments. Written by a program for this claim. -/
import Derived.Test.YteoclecadpapfaaG0
import Derived.Test.YteoclecadpapfaaG29
import Derived.Test.YteoclecadpapfaaG43
import Derived.Test.YteoclecadpapfaaG71
import Derived.Test.YteoclecadpapfaaM6
namespace Go.Proofs.Yteoclecadpapfaa.G
open Go.RowKit Go.Proofs.YteoclecadpapfaaW.PrintWords Go.Proofs.YteoclecadpapfaaW.PrintLast Go.Proofs.YteoclecadpapfaaW.PrintMore
attribute [local go_sem] max2_int min2_int max_two min_two max_three min_three max_four min_four
set_option linter.unusedVariables false
set_option linter.unusedSimpArgs false

/-! ### psalteryref19_Read: function 48 -/
def psalteryref19_Read.f (l0 : List Int) (l1 : List Int) : Option (Int × Int × Bool × List Int × Int) := if (l1.length : Int) < 11 then (some (0, 0, false, ([] : List Int), 4)) else (if 0 ≤ (wrap64 ((l1.length : Int) - 4)) then (if (wrap64 ((l1.length : Int) - 4)) ≤ (l1.length : Int) then ((psalteryref19_value.f (l1.drop ((wrap64 ((l1.length : Int) - 4)) : Int).toNat)).bind fun t107 => ((psalteryref02_Add.f l0 4294967295 (l1.take ((wrap64 ((l1.length : Int) - 4)) : Int).toNat)).bind fun t113 => (if t107 = (wrap64 (Go.bits .xor .u32 t113 4294967295)) then (if 2 ≤ (l1.length : Int) then ((psalteryref19_value.f (l1.take 2)).bind fun t119 => (if 2 ≤ 6 then (if 6 ≤ (l1.length : Int) then ((psalteryref19_value.f ((l1.take 6).drop 2)).bind fun t125 => (if 6 < (l1.length : Int) then (if 7 ≤ (wrap64 ((l1.length : Int) - 4)) then ((some ((l1.take ((wrap64 ((l1.length : Int) - 4)) : Int).toNat).drop 7 : List Int)).bind fun y127 => (if (rd l1 6) = 0 then ((psalteryref19_Right.f t119 t125 ((rd l1 6) == 1) y127).bind fun t134 => (if t134 = true then (some (t119, t125, ((rd l1 6) == 1), y127, 0)) else (some (0, 0, false, ([] : List Int), 2)))) else (if (rd l1 6) = 1 then ((psalteryref19_Right.f t119 t125 ((rd l1 6) == 1) y127).bind fun t136 => (if t136 = true then (some (t119, t125, ((rd l1 6) == 1), y127, 0)) else (some (0, 0, false, ([] : List Int), 2)))) else (some (0, 0, false, ([] : List Int), 2))))) else (none)) else (none))) else (none)) else (none))) else (none)) else (some (0, 0, false, ([] : List Int), 6))))) else (none)) else (none))
def psalteryref19_Read.T4 : Bool × List (List Nat × List Nat) := (true, [([], []), ([], []), ([0, 1], [0, 1]), ([2], [2]), ([], []), ([], []), ([], []), ([5, 6], [5, 6]), ([4, 7, 3], [4, 7]), ([8], [8]), ([9], [9]), ([3, 10], [3, 10])])
def psalteryref19_Read.B4 : List Nat := [0, 0, 3, 7, 0, 0, 0, 96, 255, 511, 1023, 2047]
theorem psalteryref19_Read.tab4 : rtab .any (opsOf Try.f48 4) = psalteryref19_Read.T4 := by kernel_rfl
theorem psalteryref19_Read.bits4 : waitsOk psalteryref19_Read.T4.2 psalteryref19_Read.B4 = true := by kernel_rfl
def psalteryref19_Read.T6 : Bool × List (List Nat × List Nat) := (true, [([], []), ([0], [0]), ([1], [1]), ([], []), ([3], [3]), ([4, 2], [4]), ([], []), ([6], [6]), ([7], [7]), ([8], [8]), ([], []), ([], []), ([10, 11], [10, 11]), ([2, 5, 9, 12], [2, 5, 9, 12]), ([], []), ([14, 13, 5, 0, 1, 2, 3, 4, 5, 6, 7, 8, 9, 10, 11, 12, 13, 14], [13, 14])])
def psalteryref19_Read.B6 : List Nat := [0, 1, 3, 0, 8, 31, 0, 64, 192, 448, 0, 0, 3072, 8191, 0, 32767]
theorem psalteryref19_Read.tab6 : rtab .any (opsOf Try.f48 6) = psalteryref19_Read.T6 := by kernel_rfl
theorem psalteryref19_Read.bits6 : waitsOk psalteryref19_Read.T6.2 psalteryref19_Read.B6 = true := by kernel_rfl
set_option maxHeartbeats 8000000 in
set_option maxRecDepth 100000 in
theorem psalteryref19_Read.calls (A0 : Option Addr) (c0 : Nat) (l0 : List Int) (P1_ : Nat → Prop) (A1 : Option Addr) (c1 : Nat) (l1 : List Int) (r1 : Int) (r2 : Int) (r3 : Bool) (r4 : List Int) (r5 : Int) (w : World) (hr0 : Kd.C (Kd.int .u32) w A0 l0.length l0) (hc0 : l0.length ≤ c0) (hs1 : Kd.V (Kd.int .u8) 5 w w.heap.size (fun k_ => P1_ k_) (.slice A1 l1.length c1) l1) (h : psalteryref19_Read.f l0 l1 = some (r1, r2, r3, r4, r5)) :
    Calls Try.prog 48 #[.slice A0 l0.length c0, .slice A1 l1.length c1] w fun e w' => ∃ v3_ : Value, e = .returned (.tuple #[.agg #[.int .i64 r1, .int .i64 r2, .bool r3, v3_], .int .i64 r5]) ∧ Kd.V (Kd.int .u8) 5 w' w.heap.size (fun k_ => (P1_ k_ ∨ w.heap.size ≤ k_)) v3_ r4 ∧ Below w.heap.size w w' := by
  have hu63 := Try.underlying63
  have HR0 := Aside0.mk hr0
  have HC0 := Aside0.mk hc0
  clear hr0 hc0
  have HO1 := Aside0.mk (show Kd.V (Kd.int .u8) 5 w w.heap.size (fun k_ => (P1_ k_ ∨ w.heap.size ≤ k_)) (.slice A1 l1.length c1) l1 from Kd.V_mono hs1 (fun k_ hk => .inl hk))
  have HB := Aside0.mk (Below.refl w.heap.size w)
  have H : (if (l1.length : Int) < 11 then (some (0, 0, false, ([] : List Int), 4)) else (if 0 ≤ (wrap64 ((l1.length : Int) - 4)) then (if (wrap64 ((l1.length : Int) - 4)) ≤ (l1.length : Int) then ((psalteryref19_value.f (l1.drop ((wrap64 ((l1.length : Int) - 4)) : Int).toNat)).bind fun t107 => ((psalteryref02_Add.f l0 4294967295 (l1.take ((wrap64 ((l1.length : Int) - 4)) : Int).toNat)).bind fun t113 => (if t107 = (wrap64 (Go.bits .xor .u32 t113 4294967295)) then (if 2 ≤ (l1.length : Int) then ((psalteryref19_value.f (l1.take 2)).bind fun t119 => (if 2 ≤ 6 then (if 6 ≤ (l1.length : Int) then ((psalteryref19_value.f ((l1.take 6).drop 2)).bind fun t125 => (if 6 < (l1.length : Int) then (if 7 ≤ (wrap64 ((l1.length : Int) - 4)) then ((some ((l1.take ((wrap64 ((l1.length : Int) - 4)) : Int).toNat).drop 7 : List Int)).bind fun y127 => (if (rd l1 6) = 0 then ((psalteryref19_Right.f t119 t125 ((rd l1 6) == 1) y127).bind fun t134 => (if t134 = true then (some (t119, t125, ((rd l1 6) == 1), y127, 0)) else (some (0, 0, false, ([] : List Int), 2)))) else (if (rd l1 6) = 1 then ((psalteryref19_Right.f t119 t125 ((rd l1 6) == 1) y127).bind fun t136 => (if t136 = true then (some (t119, t125, ((rd l1 6) == 1), y127, 0)) else (some (0, 0, false, ([] : List Int), 2)))) else (some (0, 0, false, ([] : List Int), 2))))) else (none)) else (none))) else (none)) else (none))) else (none)) else (some (0, 0, false, ([] : List Int), 6))))) else (none)) else (none))) = some (r1, r2, r3, r4, r5) := h
  clear h
  by_cases c3 : (l1.length : Int) < 11
  · rw [if_pos c3] at H
    have c3b0 : decide ((l1.length : Int) < 11) = true := decide_eq_true c3
    have c3b1 : decide (l1.length < 11) = true := decide_eq_true (by omega)
    clear c3
    simp only [Option.some.injEq, Prod.mk.injEq] at H
    obtain ⟨rfl, rfl, rfl, rfl, rfl⟩ := H
    go_enter Try.func48, Try.ntmps48
    go_wp2_with (first | ((with_reducible refine gate_dst (N := 4) rfl ?_); refine box_event ?hg (N := 4) ?hd (cs := #[.int .i64 0, .int .i64 0, .bool false, .slice none 0 0]) (t := 63) ?hr ?_; (case hd => rfl); (case hg => rfl); (case hr => first | (go_simp; done) | (go_simp; rfl)); intro gb101 hg w4 hbox hb; have n0_ := Aside0.mk (Kd.V_below (Kd.V_elderB (by (with_reducible repeat (first | apply Kd.V_alloc | apply Kd.V_drewN | apply Kd.V_drew)); exact HO1.out) gb101 (Nat.le_of_eq hg.symm)) hb); have n1_ := Aside0.mk (below_step (by repeat (first | (with_reducible first | exact HB.out | apply below_alloc | apply pw_below_drewN | apply below_drew1) | exact HB.out)) hb); have n2_ := Aside0.mk (hbox); have n3_ := Aside0.mk ((by rw [hg]; exact (below_size (by repeat (first | (with_reducible first | exact HB.out | apply below_alloc | apply pw_below_drewN | apply below_drew1) | exact HB.out))) : w.heap.size ≤ gb101)); have n4_ := Aside0.mk ((by rw [hg]; exact (below_size (by repeat (first | (with_reducible first | exact HB.out | apply below_alloc | apply pw_below_drewN | apply below_drew1) | exact HB.out))) : w.heap.size ≤ gb101)); clear HO1; clear HB; have HO1 := n0_; have HB := n1_; have BK101 := n2_; have GW101 := n3_; have GE101 := n4_; clear n0_ n1_ n2_ n3_ n4_; clear hb hbox hg; have hcz5_0 : w4.cell? ⟨gb101, 0, none⟩ = some (.int .i64 0) := (blk_cell BK101.out 0).trans rfl; have hcz5_1 : w4.cell? ⟨gb101, 1, none⟩ = some (.int .i64 0) := (blk_cell BK101.out 1).trans rfl; have hcz5_2 : w4.cell? ⟨gb101, 2, none⟩ = some (.bool false) := (by first | exact (blk_cell BK101.out 2).trans rfl | (refine (blk_cell BK101.out 2).trans ?_; show some (Value.bool _) = some (Value.bool _); congr 2; first | (with_reducible assumption) | exact Eq.symm (Aside0.out (by with_reducible assumption)))); have hcz5_3 : w4.cell? ⟨gb101, 3, none⟩ = some (.slice none 0 0) := (blk_cell BK101.out 3).trans rfl; have hfz5_0 := blk_frozen BK101.out 0; have hfz5_1 := blk_frozen BK101.out 1; have hfz5_2 := blk_frozen BK101.out 2; have hfz5_3 := blk_frozen BK101.out 3))
    refine bodyPost_ret (results_ct rfl _ _ gb101 63 #[.int .i64 0, .int .i64 0, .bool false, .slice none 0 0] (0, 0) _ rfl (by (with_reducible repeat (first | refine blk_drewN ?_ _ | refine blk_drew ?_ | refine blk_alloc ?_ _)); refine blk_put (cs := #[.int .i64 0, .int .i64 0, .bool false, .slice none 0 0]) ?_ 3 _ rfl; (with_reducible repeat (first | refine blk_drewN ?_ _ | refine blk_drew ?_ | refine blk_alloc ?_ _)); refine blk_put (cs := #[.int .i64 0, .int .i64 0, .bool false, .slice none 0 0]) ?_ 2 _ rfl; (with_reducible repeat (first | refine blk_drewN ?_ _ | refine blk_drew ?_ | refine blk_alloc ?_ _)); refine blk_put (cs := #[.int .i64 0, .int .i64 0, .bool false, .slice none 0 0]) ?_ 1 _ rfl; (with_reducible repeat (first | refine blk_drewN ?_ _ | refine blk_drew ?_ | refine blk_alloc ?_ _)); refine blk_put (cs := #[.int .i64 0, .int .i64 0, .bool false, .slice none 0 0]) ?_ 0 _ rfl; (with_reducible repeat (first | refine blk_drewN ?_ _ | refine blk_drew ?_ | refine blk_alloc ?_ _)); exact BK101.out) Try.underlying63 rfl (by kernel_rfl)) rfl ?_
    exact ⟨_, by first | rfl | (simp [errW_none, errW_some] <;> rfl) | (simp [*, errW_none, errW_some] <;> rfl), Kd.V_nil _ _ _ _ _, by repeat (first | (with_reducible first | exact HB.out | apply below_alloc | apply pw_below_drewN | apply below_drew1 | refine below_set ?_ GE101.out) | exact HB.out)⟩
  · rw [if_neg c3] at H
    have c3b0 : decide ((l1.length : Int) < 11) = false := decide_eq_false c3
    have c3b1 : decide (l1.length < 11) = false := decide_eq_false (by omega)
    clear c3
    obtain ⟨ji6, hji6⟩ : ∃ j_ : Int, (wrap64 ((l1.length : Int) - 4)) = j_ := ⟨_, rfl⟩
    replace H : (if 0 ≤ (ji6) then (if (ji6) ≤ (l1.length : Int) then ((psalteryref19_value.f (l1.drop ((ji6) : Int).toNat)).bind fun t107 => ((psalteryref02_Add.f l0 4294967295 (l1.take ((ji6) : Int).toNat)).bind fun t113 => (if t107 = (wrap64 (Go.bits .xor .u32 t113 4294967295)) then (if 2 ≤ (l1.length : Int) then ((psalteryref19_value.f (l1.take 2)).bind fun t119 => (if 2 ≤ 6 then (if 6 ≤ (l1.length : Int) then ((psalteryref19_value.f ((l1.take 6).drop 2)).bind fun t125 => (if 6 < (l1.length : Int) then (if 7 ≤ (ji6) then ((some ((l1.take ((ji6) : Int).toNat).drop 7 : List Int)).bind fun y127 => (if (rd l1 6) = 0 then ((psalteryref19_Right.f t119 t125 ((rd l1 6) == 1) y127).bind fun t134 => (if t134 = true then (some (t119, t125, ((rd l1 6) == 1), y127, 0)) else (some (0, 0, false, ([] : List Int), 2)))) else (if (rd l1 6) = 1 then ((psalteryref19_Right.f t119 t125 ((rd l1 6) == 1) y127).bind fun t136 => (if t136 = true then (some (t119, t125, ((rd l1 6) == 1), y127, 0)) else (some (0, 0, false, ([] : List Int), 2)))) else (some (0, 0, false, ([] : List Int), 2))))) else (none)) else (none))) else (none)) else (none))) else (none)) else (some (0, 0, false, ([] : List Int), 6))))) else (none)) else (none)) = some (r1, r2, r3, r4, r5) := by first | (rw [hji6] at H; exact H) | (simp only [hji6] at H ⊢; exact H)
    have hji6w : (IntKind.i64.wrap ((l1.length : Int) - 4)) = ji6 := (i64_w _).trans hji6
    by_cases c7 : 0 ≤ (ji6)
    · rw [if_pos c7] at H
      have c7b0 := eq_true c7
      have c7b1 : decide (0 ≤ (ji6)) = true := decide_eq_true c7
      clear c7
      by_cases c8 : (ji6) ≤ (l1.length : Int)
      · rw [if_pos c8] at H
        have c8b0 := eq_true c8
        have c8b1 : decide ((ji6) ≤ (l1.length : Int)) = true := decide_eq_true c8
        clear c8
        obtain ⟨y102, hy102⟩ : ∃ y_ : List Int, y_ = (l1.drop ((ji6) : Int).toNat) := ⟨_, rfl⟩
        replace H : ((psalteryref19_value.f y102).bind fun t107 => ((psalteryref02_Add.f l0 4294967295 (l1.take ((ji6) : Int).toNat)).bind fun t113 => (if t107 = (wrap64 (Go.bits .xor .u32 t113 4294967295)) then (if 2 ≤ (l1.length : Int) then ((psalteryref19_value.f (l1.take 2)).bind fun t119 => (if 2 ≤ 6 then (if 6 ≤ (l1.length : Int) then ((psalteryref19_value.f ((l1.take 6).drop 2)).bind fun t125 => (if 6 < (l1.length : Int) then (if 7 ≤ (ji6) then ((some ((l1.take ((ji6) : Int).toNat).drop 7 : List Int)).bind fun y127 => (if (rd l1 6) = 0 then ((psalteryref19_Right.f t119 t125 ((rd l1 6) == 1) y127).bind fun t134 => (if t134 = true then (some (t119, t125, ((rd l1 6) == 1), y127, 0)) else (some (0, 0, false, ([] : List Int), 2)))) else (if (rd l1 6) = 1 then ((psalteryref19_Right.f t119 t125 ((rd l1 6) == 1) y127).bind fun t136 => (if t136 = true then (some (t119, t125, ((rd l1 6) == 1), y127, 0)) else (some (0, 0, false, ([] : List Int), 2)))) else (some (0, 0, false, ([] : List Int), 2))))) else (none)) else (none))) else (none)) else (none))) else (none)) else (some (0, 0, false, ([] : List Int), 6))))) = some (r1, r2, r3, r4, r5) := by first | (rw [hy102]; with_reducible exact H) | (have H2_ := (Option.bind_some _ _).symm.trans H; rw [hy102]; with_reducible exact H2_) | (have H2_ := (Option.bind_some _ _).symm.trans H; with_reducible exact H2_) | with_reducible exact H | (rw [hy102]; exact H) | exact H
        have Ny102 := Aside0.mk hy102
        clear hy102
        replace H := Option.bind_eq_some_iff.mp H
        obtain ⟨t107, A90, H⟩ := H
        replace H : ((psalteryref02_Add.f l0 4294967295 (l1.take ((ji6) : Int).toNat)).bind fun t113 => (if t107 = (wrap64 (Go.bits .xor .u32 t113 4294967295)) then (if 2 ≤ (l1.length : Int) then ((psalteryref19_value.f (l1.take 2)).bind fun t119 => (if 2 ≤ 6 then (if 6 ≤ (l1.length : Int) then ((psalteryref19_value.f ((l1.take 6).drop 2)).bind fun t125 => (if 6 < (l1.length : Int) then (if 7 ≤ (ji6) then ((some ((l1.take ((ji6) : Int).toNat).drop 7 : List Int)).bind fun y127 => (if (rd l1 6) = 0 then ((psalteryref19_Right.f t119 t125 ((rd l1 6) == 1) y127).bind fun t134 => (if t134 = true then (some (t119, t125, ((rd l1 6) == 1), y127, 0)) else (some (0, 0, false, ([] : List Int), 2)))) else (if (rd l1 6) = 1 then ((psalteryref19_Right.f t119 t125 ((rd l1 6) == 1) y127).bind fun t136 => (if t136 = true then (some (t119, t125, ((rd l1 6) == 1), y127, 0)) else (some (0, 0, false, ([] : List Int), 2)))) else (some (0, 0, false, ([] : List Int), 2))))) else (none)) else (none))) else (none)) else (none))) else (none)) else (some (0, 0, false, ([] : List Int), 6)))) = some (r1, r2, r3, r4, r5) := H
        have A9 := Aside0.mk A90
        clear A90
        have c10b0 := eq_true (of_decide_eq_true (by first | (with_reducible assumption) | assumption) : 0 ≤ (ji6))
        have c11b0 := eq_true (of_decide_eq_true (by first | (with_reducible assumption) | assumption) : (ji6) ≤ (l1.length : Int))
        obtain ⟨y108, hy108⟩ : ∃ y_ : List Int, y_ = (l1.take ((ji6) : Int).toNat) := ⟨_, rfl⟩
        replace H : ((psalteryref02_Add.f l0 4294967295 y108).bind fun t113 => (if t107 = (wrap64 (Go.bits .xor .u32 t113 4294967295)) then (if 2 ≤ (l1.length : Int) then ((psalteryref19_value.f (l1.take 2)).bind fun t119 => (if 2 ≤ 6 then (if 6 ≤ (l1.length : Int) then ((psalteryref19_value.f ((l1.take 6).drop 2)).bind fun t125 => (if 6 < (l1.length : Int) then (if 7 ≤ (ji6) then ((some ((l1.take ((ji6) : Int).toNat).drop 7 : List Int)).bind fun y127 => (if (rd l1 6) = 0 then ((psalteryref19_Right.f t119 t125 ((rd l1 6) == 1) y127).bind fun t134 => (if t134 = true then (some (t119, t125, ((rd l1 6) == 1), y127, 0)) else (some (0, 0, false, ([] : List Int), 2)))) else (if (rd l1 6) = 1 then ((psalteryref19_Right.f t119 t125 ((rd l1 6) == 1) y127).bind fun t136 => (if t136 = true then (some (t119, t125, ((rd l1 6) == 1), y127, 0)) else (some (0, 0, false, ([] : List Int), 2)))) else (some (0, 0, false, ([] : List Int), 2))))) else (none)) else (none))) else (none)) else (none))) else (none)) else (some (0, 0, false, ([] : List Int), 6)))) = some (r1, r2, r3, r4, r5) := by first | (rw [hy108]; with_reducible exact H) | (have H2_ := (Option.bind_some _ _).symm.trans H; rw [hy108]; with_reducible exact H2_) | (have H2_ := (Option.bind_some _ _).symm.trans H; with_reducible exact H2_) | with_reducible exact H | (rw [hy108]; exact H) | exact H
        have Ny108 := Aside0.mk hy108
        clear hy108
        replace H := Option.bind_eq_some_iff.mp H
        obtain ⟨t113, A120, H⟩ := H
        replace H : (if t107 = (wrap64 (Go.bits .xor .u32 t113 4294967295)) then (if 2 ≤ (l1.length : Int) then ((psalteryref19_value.f (l1.take 2)).bind fun t119 => (if 2 ≤ 6 then (if 6 ≤ (l1.length : Int) then ((psalteryref19_value.f ((l1.take 6).drop 2)).bind fun t125 => (if 6 < (l1.length : Int) then (if 7 ≤ (ji6) then ((some ((l1.take ((ji6) : Int).toNat).drop 7 : List Int)).bind fun y127 => (if (rd l1 6) = 0 then ((psalteryref19_Right.f t119 t125 ((rd l1 6) == 1) y127).bind fun t134 => (if t134 = true then (some (t119, t125, ((rd l1 6) == 1), y127, 0)) else (some (0, 0, false, ([] : List Int), 2)))) else (if (rd l1 6) = 1 then ((psalteryref19_Right.f t119 t125 ((rd l1 6) == 1) y127).bind fun t136 => (if t136 = true then (some (t119, t125, ((rd l1 6) == 1), y127, 0)) else (some (0, 0, false, ([] : List Int), 2)))) else (some (0, 0, false, ([] : List Int), 2))))) else (none)) else (none))) else (none)) else (none))) else (none)) else (some (0, 0, false, ([] : List Int), 6))) = some (r1, r2, r3, r4, r5) := H
        have A12 := Aside0.mk A120
        clear A120
        have HMg_ := Aside0.mk H
        clear H
        go_enter Try.func48, Try.ntmps48
        try go_wp2_with (first | ((with_reducible refine gate_dst (N := 4) rfl ?_); refine box_event ?hg (N := 4) ?hd (cs := #[.int .i64 0, .int .i64 0, .bool false, .slice none 0 0]) (t := 63) ?hr ?_; (case hd => rfl); (case hg => rfl); (case hr => first | (go_simp; done) | (go_simp; rfl)); intro gb101 hg w25 hbox hb; have n0_ := Aside0.mk (Kd.V_below (Kd.V_elderB (by (with_reducible repeat (first | apply Kd.V_alloc | apply Kd.V_drewN | apply Kd.V_drew)); exact HO1.out) gb101 (Nat.le_of_eq hg.symm)) hb); have n1_ := Aside0.mk (below_step (by repeat (first | (with_reducible first | exact HB.out | apply below_alloc | apply pw_below_drewN | apply below_drew1) | exact HB.out)) hb); have n2_ := Aside0.mk (hbox); have n3_ := Aside0.mk ((by rw [hg]; exact (below_size (by repeat (first | (with_reducible first | exact HB.out | apply below_alloc | apply pw_below_drewN | apply below_drew1) | exact HB.out))) : w.heap.size ≤ gb101)); have n4_ := Aside0.mk ((by rw [hg]; exact (below_size (by repeat (first | (with_reducible first | exact HB.out | apply below_alloc | apply pw_below_drewN | apply below_drew1) | exact HB.out))) : w.heap.size ≤ gb101)); clear HO1; clear HB; have HO1 := n0_; have HB := n1_; have BK101 := n2_; have GW101 := n3_; have GE101 := n4_; clear n0_ n1_ n2_ n3_ n4_; clear hb hbox hg))
        have n0_ := Aside0.mk (Kd.V_drew HO1.out)
        have n1_ := Aside0.mk (blk_drew BK101.out)
        have n2_ := Aside0.mk (below_drew1 HB.out)
        clear HO1
        clear BK101
        clear HB
        have HO1 := n0_
        have BK101 := n1_
        have HB := n2_
        clear n0_ n1_ n2_
        have q27 : ((ji6) : Int) ≤ ((l1.length : Int) : Int) := of_decide_eq_true (by first | (with_reducible assumption) | assumption)
        obtain ⟨i027, hi027, _, hsz27, _⟩ := info_parts info5
        have hroom27 : l1.length ≤ c1 := (Kd.V_reads' HO1.out).2.1
        have hC27 : Kd.F (Kd.int .u8) _ _ A1 l1.length l1 := (Kd.V_at (base := w.heap.size) HO1.out).2.2
        have q027 : (0 : Int) ≤ ((ji6) : Int) := of_decide_eq_true (by first | (with_reducible assumption) | assumption)
        have hcut27 := cut_from (P := Try.prog) 28 5 .i64 Try.underlying28 hi027 1 hsz27 A1 l1.length c1 (ji6) q027 q27
        have hr27 := Kd.F_cut (m := ((ji6) : Int).toNat) (c := c1) hC27 (by omega) hroom27
        obtain ⟨A27, hA27⟩ : ∃ A1_, A1_ = (if c1 = ((ji6) : Int).toNat then A1 else (A1 : Option Addr).map (·.add (((ji6) : Int).toNat * 1))) := ⟨_, rfl⟩
        obtain ⟨c27, hc27⟩ : ∃ c1_, c1_ = c1 - ((ji6) : Int).toNat := ⟨_, rfl⟩
        have hy27 : y102.length = l1.length - ((ji6) : Int).toNat := (by rw [Ny102.out, List.length_drop] <;> omega)
        rw [show (l1).drop ((ji6) : Int).toNat = y102 from Ny102.out.symm] at hr27
        replace hr27 : Kd.F (Kd.int .u8) _ _ A27 y102.length y102 := (by rw [hA27]; exact hr27)
        rw [← hy27, ← hA27, ← hc27] at hcut27
        have HO106 := Aside0.mk (show Kd.V (Kd.int .u8) 5 _ w.heap.size _ (.slice A27 y102.length c27) y102 from Kd.V_mk (by rw [hy27, hc27]; exact Nat.sub_le_sub_right hroom27 _) hr27)
        have HC106 := Aside0.mk (show y102.length ≤ c27 from by rw [hy27, hc27]; exact Nat.sub_le_sub_right hroom27 _)
        clear hr27 hC27 hroom27 hi027 hsz27 hc27
        have KY27 := Aside0.mk hy27
        have KA27 := Aside0.mk hA27
        clear hy27 hA27
        replace q27 := eq_true q27
        have q28 : ((ji6) : Int) ≤ ((l1.length : Int) : Int) := of_decide_eq_true (by first | (with_reducible assumption) | assumption)
        obtain ⟨i028, hi028, _, hsz28, _⟩ := info_parts info5
        have hroom28 : l1.length ≤ c1 := (Kd.V_reads' HO1.out).2.1
        have hC28 : Kd.F (Kd.int .u8) _ _ A1 l1.length l1 := (Kd.V_at (base := w.heap.size) HO1.out).2.2
        have hcut28 := cut_to (P := Try.prog) 28 5 .i64 Try.underlying28 hi028 A1 l1.length c1 (ji6) (of_decide_eq_true (by first | (with_reducible assumption) | assumption)) q28 hroom28
        have hr28 := Kd.F_take (m := ((ji6) : Int).toNat) hC28 (by omega)
        have hy28 : y108.length = ((ji6) : Int).toNat := (by rw [Ny108.out, List.length_take]; omega)
        rw [← Ny108.out] at hr28
        rw [← hy28] at hcut28
        have HO112 := Aside0.mk (show Kd.V (Kd.int .u8) 5 _ w.heap.size _ (.slice A1 y108.length c1) y108 from Kd.V_mk (by omega) hr28)
        have HC112 := Aside0.mk (show y108.length ≤ c1 from by omega)
        clear hr28 hC28 hroom28 hi028 hsz28
        have KY28 := Aside0.mk hy28
        clear hy28
        replace q28 := eq_true q28
        refine start_ (n := 12) (S := fun w' => True) (ds := []) #[false, false, false, false, false, false, false, false, false, false, false, false] (by kernel_rfl) rfl rfl trivial (fun hHeld => ?_); refine with_tabW psalteryref19_Read.tab4 psalteryref19_Read.bits4 (fun HT_ HW_ => ?_)
        generalize w25.drew = w26 at HO1 BK101 HB HO106 HO112 hHeld ⊢
        refine pure_ (i := 0) (N := some 15) (v := ?_) (a' := ?_) #[true, false, false, false, false, false, false, false, false, false, false, false] rfl rfl (any_of HT_.out (by kernel_rfl)) (fun _ _ _ h => h) (Or.inl ⟨by rfl, ?_⟩) ?_ ?_
        rotate_left
        · intro w'
          go_simp
          with_reducible rfl
        rotate_left
        · simp only [Act.put, List.setIfInBounds_toArray, List.set_cons_zero, List.set_cons_succ, i64_w, i32_w]
          rfl
        refine pure_ (i := 1) (N := some 16) (v := ?_) (a' := ?_) #[true, true, false, false, false, false, false, false, false, false, false, false] rfl rfl (any_of HT_.out (by kernel_rfl)) (fun _ _ _ h => h) (Or.inl ⟨by rfl, ?_⟩) ?_ ?_
        rotate_left
        · intro w'
          go_simp
          with_reducible rfl
        rotate_left
        · simp only [Act.put, List.setIfInBounds_toArray, List.set_cons_zero, List.set_cons_succ, i64_w, i32_w]
          rfl
        refine pure_ (i := 2) (N := some 17) (v := ?_) (a' := ?_) #[true, true, true, false, false, false, false, false, false, false, false, false] rfl rfl (any_of HT_.out (by kernel_rfl)) (fun _ _ _ h => h) (Or.inl ⟨by rfl, ?_⟩) ?_ ?_
        rotate_left
        · intro w'
          go_simp
          with_reducible rfl
        rotate_left
        · simp only [Act.put, List.setIfInBounds_toArray, List.set_cons_zero, List.set_cons_succ, i64_w, i32_w]
          rfl
        refine pure_ (i := 4) (N := some 19) (v := ?_) (a' := ?_) #[true, true, true, false, true, false, false, false, false, false, false, false] rfl rfl (any_of HT_.out (by kernel_rfl)) (fun _ _ _ h => h) (Or.inl ⟨by rfl, ?_⟩) ?_ ?_
        rotate_left
        · intro w'
          go_simp
          with_reducible rfl
        rotate_left
        · simp only [Act.put, List.setIfInBounds_toArray, List.set_cons_zero, List.set_cons_succ, i64_w, i32_w]
          rfl
        refine pure_ (i := 5) (N := some 20) (v := ?_) (a' := ?_) #[true, true, true, false, true, true, false, false, false, false, false, false] rfl rfl (any_of HT_.out (by kernel_rfl)) (fun _ _ _ h => h) (Or.inl ⟨by rfl, ?_⟩) ?_ ?_
        rotate_left
        · intro w'
          go_simp
          with_reducible rfl
        rotate_left
        · simp only [Act.put, List.setIfInBounds_toArray, List.set_cons_zero, List.set_cons_succ, i64_w, i32_w]
          rfl
        refine pure_ (i := 6) (N := some 21) (v := ?_) (a' := ?_) #[true, true, true, false, true, true, true, false, false, false, false, false] rfl rfl (any_of HT_.out (by kernel_rfl)) (fun _ _ _ h => h) (Or.inl ⟨by rfl, ?_⟩) ?_ ?_
        rotate_left
        · intro w'
          go_simp
          with_reducible rfl
        rotate_left
        · simp only [Act.put, List.setIfInBounds_toArray, List.set_cons_zero, List.set_cons_succ, i64_w, i32_w]
          rfl
        refine pure_ (i := 7) (N := some 22) (v := ?_) (a' := ?_) #[true, true, true, false, true, true, true, true, false, false, false, false] rfl rfl (any_of HT_.out (by kernel_rfl)) (fun _ _ _ h => h) (Or.inl ⟨by rfl, ?_⟩) ?_ ?_
        rotate_left
        · intro w'
          go_simp
          with_reducible rfl
        rotate_left
        · simp only [Act.put, List.setIfInBounds_toArray, List.set_cons_zero, List.set_cons_succ, i64_w, i32_w]
          rfl
        refine one_ (i := 3) (N := some 18) #[true, true, true, true, true, true, true, true, false, false, false, false] rfl rfl (one_of HT_.out (by kernel_rfl)) (by decide) (fun K hK => ?_)
        refine goes_ Try.func71 (by kernel_rfl) rfl #[.slice A27 y102.length c27] (by rfl) rfl rfl (by (try simp only [List.map_toArray, List.map_cons, List.map_nil]); first | done | rfl | (simp only [List.length_drop, List.length_take]; rfl)) ?_
        with_reducible refine (psalteryref19_value.calls _ _ y102 t107 _ ?side1 ?side2 A9.out).mono ?_
        (case side1 => repeat (first | exact (Kd.V_reads' HO106.out).2.2 | (with_reducible refine Kd.C_alloc ?_ _) | (with_reducible refine Kd.C_drewN ?_ _) | (with_reducible refine Kd.C_drew ?_)))
        (case side2 => exact (Kd.V_reads' HO106.out).2.1)
        rintro e w' ⟨rfl, ⟨nd, rfl⟩⟩
        refine ⟨_, rfl, ?_⟩
        refine hK.out _ _ trivial (fun hHeld => ?_)
        clear hK K
        refine norm_ (a' := ?_) ?_ ?_
        rotate_left
        · show Act.put _ (some 18) _ = _
          simp only [Act.put, List.setIfInBounds_toArray, List.set_cons_zero, List.set_cons_succ, i64_w, i32_w]
          rfl
        refine one_ (i := 8) (N := some 23) #[true, true, true, true, true, true, true, true, true, false, false, false] rfl rfl (one_of HT_.out (by kernel_rfl)) (by decide) (fun K hK => ?_)
        refine goes_ Try.func29 (by kernel_rfl) rfl #[.slice A0 l0.length c0, .int .u32 4294967295, .slice A1 y108.length c1] (by rfl) rfl rfl (by (try simp only [List.map_toArray, List.map_cons, List.map_nil]); first | done | rfl | (simp only [List.length_drop, List.length_take]; rfl)) ?_
        with_reducible refine (psalteryref02_Add.calls _ _ l0 4294967295 _ _ y108 t113 _ ?side1 ?side2 ?side3 ?side4 A12.out).mono ?_
        (case side1 => repeat (first | exact (Kd.C_below HR0.out (by repeat (first | (with_reducible first | exact HB.out | apply below_alloc | apply pw_below_drewN | apply below_drew1 | refine below_set ?_ GE101.out) | exact HB.out))) | (with_reducible refine Kd.C_alloc ?_ _) | (with_reducible refine Kd.C_drewN ?_ _) | (with_reducible refine Kd.C_drew ?_)))
        (case side2 => exact HC0.out)
        (case side3 => repeat (first | exact (Kd.V_reads' HO112.out).2.2 | (with_reducible refine Kd.C_alloc ?_ _) | (with_reducible refine Kd.C_drewN ?_ _) | (with_reducible refine Kd.C_drew ?_)))
        (case side4 => exact (Kd.V_reads' HO112.out).2.1)
        rintro e w' ⟨rfl, ⟨nd, rfl⟩⟩
        refine ⟨_, rfl, ?_⟩
        refine hK.out _ _ trivial (fun hHeld => ?_)
        clear hK K
        refine norm_ (a' := ?_) ?_ ?_
        rotate_left
        · show Act.put _ (some 23) _ = _
          simp only [Act.put, List.setIfInBounds_toArray, List.set_cons_zero, List.set_cons_succ, i64_w, i32_w]
          rfl
        refine pure_ (i := 9) (N := some 24) (v := ?_) (a' := ?_) #[true, true, true, true, true, true, true, true, true, true, false, false] rfl rfl (any_of HT_.out (by kernel_rfl)) (fun _ _ _ h => h) (Or.inl ⟨by rfl, ?_⟩) ?_ ?_
        rotate_left
        · intro w'
          go_simp
          with_reducible rfl
        rotate_left
        · simp only [Act.put, List.setIfInBounds_toArray, List.set_cons_zero, List.set_cons_succ, i64_w, i32_w]
          rfl
        refine pure_ (i := 10) (N := some 25) (v := ?_) (a' := ?_) #[true, true, true, true, true, true, true, true, true, true, true, false] rfl rfl (any_of HT_.out (by kernel_rfl)) (fun _ _ _ h => h) (Or.inl ⟨by rfl, ?_⟩) ?_ ?_
        rotate_left
        · intro w'
          go_simp
          with_reducible rfl
        rotate_left
        · simp only [Act.put, List.setIfInBounds_toArray, List.set_cons_zero, List.set_cons_succ, i64_w, i32_w]
          rfl
        refine pure_ (i := 11) (N := some 26) (v := ?_) (a' := ?_) #[true, true, true, true, true, true, true, true, true, true, true, true] rfl rfl (any_of HT_.out (by kernel_rfl)) (fun _ _ _ h => h) (Or.inl ⟨by rfl, ?_⟩) ?_ ?_
        rotate_left
        · intro w'
          go_simp
          with_reducible rfl
        rotate_left
        · simp only [Act.put, List.setIfInBounds_toArray, List.set_cons_zero, List.set_cons_succ, i64_w, i32_w]
          rfl
        refine done_ (done_of HT_.out (by kernel_rfl)) ?_
        have H := HMg_.out
        clear HMg_
        by_cases c13 : t107 = (wrap64 (Go.bits .xor .u32 t113 4294967295))
        · rw [if_pos c13] at H
          have c13b0 : (t107 == (wrap64 (Go.bits .xor .u32 t113 4294967295))) = true := beq_iff_eq.mpr c13
          have c13b1 : (t107 != (wrap64 (Go.bits .xor .u32 t113 4294967295))) = false := bne_eq_false_iff_eq.mpr c13
          clear c13
          by_cases c14 : 2 ≤ (l1.length : Int)
          · rw [if_pos c14] at H
            have c14b0 := eq_true c14
            have c14b1 : decide (2 ≤ (l1.length : Int)) = true := decide_eq_true c14
            clear c14
            obtain ⟨y114, hy114⟩ : ∃ y_ : List Int, y_ = (l1.take 2) := ⟨_, rfl⟩
            replace H : ((psalteryref19_value.f y114).bind fun t119 => (if 2 ≤ 6 then (if 6 ≤ (l1.length : Int) then ((psalteryref19_value.f ((l1.take 6).drop 2)).bind fun t125 => (if 6 < (l1.length : Int) then (if 7 ≤ (ji6) then ((some ((l1.take ((ji6) : Int).toNat).drop 7 : List Int)).bind fun y127 => (if (rd l1 6) = 0 then ((psalteryref19_Right.f t119 t125 ((rd l1 6) == 1) y127).bind fun t134 => (if t134 = true then (some (t119, t125, ((rd l1 6) == 1), y127, 0)) else (some (0, 0, false, ([] : List Int), 2)))) else (if (rd l1 6) = 1 then ((psalteryref19_Right.f t119 t125 ((rd l1 6) == 1) y127).bind fun t136 => (if t136 = true then (some (t119, t125, ((rd l1 6) == 1), y127, 0)) else (some (0, 0, false, ([] : List Int), 2)))) else (some (0, 0, false, ([] : List Int), 2))))) else (none)) else (none))) else (none)) else (none))) = some (r1, r2, r3, r4, r5) := by first | (rw [hy114]; with_reducible exact H) | (have H2_ := (Option.bind_some _ _).symm.trans H; rw [hy114]; with_reducible exact H2_) | (have H2_ := (Option.bind_some _ _).symm.trans H; with_reducible exact H2_) | with_reducible exact H | (rw [hy114]; exact H) | exact H
            have Ny114 := Aside0.mk hy114
            clear hy114
            replace H := Option.bind_eq_some_iff.mp H
            obtain ⟨t119, A150, H⟩ := H
            replace H : (if 2 ≤ 6 then (if 6 ≤ (l1.length : Int) then ((psalteryref19_value.f ((l1.take 6).drop 2)).bind fun t125 => (if 6 < (l1.length : Int) then (if 7 ≤ (ji6) then ((some ((l1.take ((ji6) : Int).toNat).drop 7 : List Int)).bind fun y127 => (if (rd l1 6) = 0 then ((psalteryref19_Right.f t119 t125 ((rd l1 6) == 1) y127).bind fun t134 => (if t134 = true then (some (t119, t125, ((rd l1 6) == 1), y127, 0)) else (some (0, 0, false, ([] : List Int), 2)))) else (if (rd l1 6) = 1 then ((psalteryref19_Right.f t119 t125 ((rd l1 6) == 1) y127).bind fun t136 => (if t136 = true then (some (t119, t125, ((rd l1 6) == 1), y127, 0)) else (some (0, 0, false, ([] : List Int), 2)))) else (some (0, 0, false, ([] : List Int), 2))))) else (none)) else (none))) else (none)) else (none)) = some (r1, r2, r3, r4, r5) := H
            have A15 := Aside0.mk A150
            clear A150
            by_cases c16 : 2 ≤ 6
            · rw [if_pos c16] at H
              have c16b0 := eq_true c16
              have c16b1 : decide (2 ≤ 6) = true := decide_eq_true c16
              clear c16
              by_cases c17 : 6 ≤ (l1.length : Int)
              · rw [if_pos c17] at H
                have c17b0 := eq_true c17
                have c17b1 : decide (6 ≤ (l1.length : Int)) = true := decide_eq_true c17
                clear c17
                obtain ⟨y120, hy120⟩ : ∃ y_ : List Int, y_ = ((l1.take 6).drop 2) := ⟨_, rfl⟩
                replace H : ((psalteryref19_value.f y120).bind fun t125 => (if 6 < (l1.length : Int) then (if 7 ≤ (ji6) then ((some ((l1.take ((ji6) : Int).toNat).drop 7 : List Int)).bind fun y127 => (if (rd l1 6) = 0 then ((psalteryref19_Right.f t119 t125 ((rd l1 6) == 1) y127).bind fun t134 => (if t134 = true then (some (t119, t125, ((rd l1 6) == 1), y127, 0)) else (some (0, 0, false, ([] : List Int), 2)))) else (if (rd l1 6) = 1 then ((psalteryref19_Right.f t119 t125 ((rd l1 6) == 1) y127).bind fun t136 => (if t136 = true then (some (t119, t125, ((rd l1 6) == 1), y127, 0)) else (some (0, 0, false, ([] : List Int), 2)))) else (some (0, 0, false, ([] : List Int), 2))))) else (none)) else (none))) = some (r1, r2, r3, r4, r5) := by first | (rw [hy120]; with_reducible exact H) | (have H2_ := (Option.bind_some _ _).symm.trans H; rw [hy120]; with_reducible exact H2_) | (have H2_ := (Option.bind_some _ _).symm.trans H; with_reducible exact H2_) | with_reducible exact H | (rw [hy120]; exact H) | exact H
                have Ny120 := Aside0.mk hy120
                clear hy120
                replace H := Option.bind_eq_some_iff.mp H
                obtain ⟨t125, A180, H⟩ := H
                replace H : (if 6 < (l1.length : Int) then (if 7 ≤ (ji6) then ((some ((l1.take ((ji6) : Int).toNat).drop 7 : List Int)).bind fun y127 => (if (rd l1 6) = 0 then ((psalteryref19_Right.f t119 t125 ((rd l1 6) == 1) y127).bind fun t134 => (if t134 = true then (some (t119, t125, ((rd l1 6) == 1), y127, 0)) else (some (0, 0, false, ([] : List Int), 2)))) else (if (rd l1 6) = 1 then ((psalteryref19_Right.f t119 t125 ((rd l1 6) == 1) y127).bind fun t136 => (if t136 = true then (some (t119, t125, ((rd l1 6) == 1), y127, 0)) else (some (0, 0, false, ([] : List Int), 2)))) else (some (0, 0, false, ([] : List Int), 2))))) else (none)) else (none)) = some (r1, r2, r3, r4, r5) := H
                have A18 := Aside0.mk A180
                clear A180
                by_cases c19 : 6 < (l1.length : Int)
                · rw [if_pos c19] at H
                  have c19b0 : decide (6 < (l1.length : Int)) = true := decide_eq_true c19
                  have c19b1 : decide (6 < l1.length) = true := decide_eq_true (by omega)
                  clear c19
                  by_cases c20 : 7 ≤ (ji6)
                  · rw [if_pos c20] at H
                    have c20b0 := eq_true c20
                    have c20b1 : decide (7 ≤ (ji6)) = true := decide_eq_true c20
                    clear c20
                    have c21b0 := eq_true (of_decide_eq_true (by first | (with_reducible assumption) | assumption) : (ji6) ≤ (l1.length : Int))
                    obtain ⟨y127, hy127⟩ : ∃ y_ : List Int, y_ = ((l1.take ((ji6) : Int).toNat).drop 7) := ⟨_, rfl⟩
                    replace H : (if (rd l1 6) = 0 then ((psalteryref19_Right.f t119 t125 ((rd l1 6) == 1) y127).bind fun t134 => (if t134 = true then (some (t119, t125, ((rd l1 6) == 1), y127, 0)) else (some (0, 0, false, ([] : List Int), 2)))) else (if (rd l1 6) = 1 then ((psalteryref19_Right.f t119 t125 ((rd l1 6) == 1) y127).bind fun t136 => (if t136 = true then (some (t119, t125, ((rd l1 6) == 1), y127, 0)) else (some (0, 0, false, ([] : List Int), 2)))) else (some (0, 0, false, ([] : List Int), 2)))) = some (r1, r2, r3, r4, r5) := by first | (rw [hy127]; with_reducible exact H) | (have H2_ := (Option.bind_some _ _).symm.trans H; rw [hy127]; with_reducible exact H2_) | (have H2_ := (Option.bind_some _ _).symm.trans H; with_reducible exact H2_) | with_reducible exact H | (rw [hy127]; exact H) | exact H
                    have Ny127 := Aside0.mk hy127
                    clear hy127
                    have HMg_ := Aside0.mk H
                    clear H
                    try go_wp2
                    (repeat rw [World.drewN_drewN]); (try (rw [drewN_self w26]; generalize hq_ : World.drewN w26 _ = w26; have n0_ : Aside0 (Kd.V (Kd.int .u8) 5 w26 w.heap.size (fun k_ => (P1_ k_ ∨ w.heap.size ≤ k_) ∧ k_ ≠ gb101) (.slice A1 l1.length c1) l1) := ⟨by rw [← hq_]; exact (by (with_reducible repeat (first | apply Kd.V_alloc | apply Kd.V_drewN | apply Kd.V_drew)); exact HO1.out)⟩; have n1_ : Aside0 (Kd.V (Kd.int .u8) 5 w26 w.heap.size (fun k_ => (P1_ k_ ∨ w.heap.size ≤ k_) ∧ k_ ≠ gb101) (.slice A27 y102.length c27) y102) := ⟨by rw [← hq_]; exact (by (with_reducible repeat (first | apply Kd.V_alloc | apply Kd.V_drewN | apply Kd.V_drew)); exact HO106.out)⟩; have n2_ : Aside0 (Kd.V (Kd.int .u8) 5 w26 w.heap.size (fun k_ => (P1_ k_ ∨ w.heap.size ≤ k_) ∧ k_ ≠ gb101) (.slice A1 y108.length c1) y108) := ⟨by rw [← hq_]; exact (by (with_reducible repeat (first | apply Kd.V_alloc | apply Kd.V_drewN | apply Kd.V_drew)); exact HO112.out)⟩; have n3_ : Aside0 (w26.heap[gb101]? = some (.cells #[.int .i64 0, .int .i64 0, .bool false, .slice none 0 0] 63 (0, 0))) := ⟨by rw [← hq_]; exact (by (with_reducible repeat (first | refine blk_drewN ?_ _ | refine blk_drew ?_ | refine blk_alloc ?_ _)); exact BK101.out)⟩; have n4_ : Aside0 (Below w.heap.size w w26) := ⟨by rw [← hq_]; exact (by repeat (first | (with_reducible first | exact HB.out | apply below_alloc | apply pw_below_drewN | apply below_drew1 | refine below_set ?_ GE101.out) | exact HB.out))⟩; clear HO1 HO106 HO112 BK101 HB hq_; have HO1 := n0_; have HO106 := n1_; have HO112 := n2_; have BK101 := n3_; have HB := n4_; clear n0_ n1_ n2_ n3_ n4_))
                    have n0_ := Aside0.mk (Kd.V_drew HO1.out)
                    have n1_ := Aside0.mk (Kd.V_drew HO106.out)
                    have n2_ := Aside0.mk (Kd.V_drew HO112.out)
                    have n3_ := Aside0.mk (blk_drew BK101.out)
                    have n4_ := Aside0.mk (below_drew1 HB.out)
                    clear HO1
                    clear HO106
                    clear HO112
                    clear BK101
                    clear HB
                    have HO1 := n0_
                    have HO106 := n1_
                    have HO112 := n2_
                    have BK101 := n3_
                    have HB := n4_
                    clear n0_ n1_ n2_ n3_ n4_
                    have q30 : (2 : Int) ≤ ((l1.length : Int) : Int) := of_decide_eq_true (by first | (with_reducible assumption) | assumption)
                    obtain ⟨i030, hi030, _, hsz30, _⟩ := info_parts info5
                    have hroom30 : l1.length ≤ c1 := (Kd.V_reads' HO1.out).2.1
                    have hC30 : Kd.F (Kd.int .u8) _ _ A1 l1.length l1 := (Kd.V_at (base := w.heap.size) HO1.out).2.2
                    have hcut30 := cut_to (P := Try.prog) 28 5 .i64 Try.underlying28 hi030 A1 l1.length c1 2 (by omega) q30 hroom30
                    have hr30 := Kd.F_take (m := 2) hC30 (by omega)
                    have hy30 : y114.length = (2 : Int).toNat := (by rw [Ny114.out, List.length_take]; omega)
                    rw [← Ny114.out] at hr30
                    rw [← hy30] at hcut30
                    have HO118 := Aside0.mk (show Kd.V (Kd.int .u8) 5 _ w.heap.size _ (.slice A1 y114.length c1) y114 from Kd.V_mk (by omega) hr30)
                    have HC118 := Aside0.mk (show y114.length ≤ c1 from by omega)
                    clear hr30 hC30 hroom30 hi030 hsz30
                    have KY30 := Aside0.mk hy30
                    clear hy30
                    replace q30 := eq_true q30
                    have q31 : (6 : Int) ≤ ((l1.length : Int) : Int) := of_decide_eq_true (by first | (with_reducible assumption) | assumption)
                    obtain ⟨i031, hi031, _, hsz31, _⟩ := info_parts info5
                    have hroom31 : l1.length ≤ c1 := (Kd.V_reads' HO1.out).2.1
                    have hC31 : Kd.F (Kd.int .u8) _ _ A1 l1.length l1 := (Kd.V_at (base := w.heap.size) HO1.out).2.2
                    have ql31 : (2 : Int) ≤ (6 : Int) := (by omega)
                    have hcut31 := cut_mid (P := Try.prog) 28 5 .i64 .i64 Try.underlying28 hi031 1 hsz31 A1 l1.length c1 2 6 (by omega) ql31 q31 hroom31
                    have hr31 := Kd.F_mid (lo := (2 : Int).toNat) (hi := (6 : Int).toNat) (c := c1) hC31 (by omega) (by omega) hroom31
                    obtain ⟨A31, hA31⟩ : ∃ A1_, A1_ = (if c1 = (2 : Int).toNat then A1 else (A1 : Option Addr).map (·.add ((2 : Int).toNat * 1))) := ⟨_, rfl⟩
                    obtain ⟨c31, hc31⟩ : ∃ c1_, c1_ = c1 - (2 : Int).toNat := ⟨_, rfl⟩
                    have hy31 : y120.length = (6 : Int).toNat - (2 : Int).toNat := (by rw [Ny120.out, List.length_drop, List.length_take] <;> omega)
                    rw [show ((l1).take (6 : Int).toNat).drop (2 : Int).toNat = y120 from Ny120.out.symm] at hr31
                    replace hr31 : Kd.F (Kd.int .u8) _ _ A31 y120.length y120 := (by rw [hA31]; exact hr31)
                    rw [← hy31, ← hA31, ← hc31] at hcut31
                    have HO124 := Aside0.mk (show Kd.V (Kd.int .u8) 5 _ w.heap.size _ (.slice A31 y120.length c31) y120 from Kd.V_mk (by rw [hy31, hc31]; exact Nat.sub_le_sub_right (Nat.le_trans (by omega) hroom31) _) hr31)
                    have HC124 := Aside0.mk (show y120.length ≤ c31 from by rw [hy31, hc31]; exact Nat.sub_le_sub_right (Nat.le_trans (by omega) hroom31) _)
                    clear hr31 hC31 hroom31 hi031 hsz31 hc31
                    have KY31 := Aside0.mk hy31
                    have KA31 := Aside0.mk hA31
                    clear hy31 hA31
                    replace q31 := eq_true q31
                    have p126 : 0 ≤ (6 : Int) := (by omega)
                    have q126 : 6 < (l1.length : Int) := of_decide_eq_true (by first | (with_reducible assumption) | assumption)
                    obtain ⟨ad126, e126, hx126_0⟩ := Kd.at_int (Kd.V_reads' HO1.out).2.2 6 p126 q126
                    cases e126
                    (try simp only [show (6 : Int).toNat = 6 from rfl, Nat.reduceMul, Nat.reduceEqDiff, Go.Addr.add, ↓reduceIte] at hx126_0)
                    have qi126 : (6 < l1.length) = True := eq_true (by omega)
                    (try rw [show ((6 : Int)).toNat = 6 from rfl] at hx126_0)
                    replace p126 := eq_true p126
                    replace q126 := eq_true q126
                    have q32 : ((ji6) : Int) ≤ ((l1.length : Int) : Int) := of_decide_eq_true (by first | (with_reducible assumption) | assumption)
                    obtain ⟨i032, hi032, _, hsz32, _⟩ := info_parts info5
                    have hroom32 : l1.length ≤ c1 := (Kd.V_reads' HO1.out).2.1
                    have hC32 : Kd.F (Kd.int .u8) _ _ (some ad126) l1.length l1 := (Kd.V_at (base := w.heap.size) HO1.out).2.2
                    have ql32 : (7 : Int) ≤ ((ji6) : Int) := of_decide_eq_true (by first | (with_reducible assumption) | assumption)
                    have hcut32 := cut_mid (P := Try.prog) 28 5 .i64 .i64 Try.underlying28 hi032 1 hsz32 (some ad126) l1.length c1 7 (ji6) (by omega) ql32 q32 hroom32
                    have hr32 := Kd.F_mid (lo := (7 : Int).toNat) (hi := ((ji6) : Int).toNat) (c := c1) hC32 (by omega) (by omega) hroom32
                    obtain ⟨A32, hA32⟩ : ∃ A1_, A1_ = (if c1 = (7 : Int).toNat then (some ad126) else ((some ad126) : Option Addr).map (·.add ((7 : Int).toNat * 1))) := ⟨_, rfl⟩
                    obtain ⟨c32, hc32⟩ : ∃ c1_, c1_ = c1 - (7 : Int).toNat := ⟨_, rfl⟩
                    have hy32 : y127.length = ((ji6) : Int).toNat - (7 : Int).toNat := (by rw [Ny127.out, List.length_drop, List.length_take] <;> omega)
                    rw [show ((l1).take ((ji6) : Int).toNat).drop (7 : Int).toNat = y127 from Ny127.out.symm] at hr32
                    replace hr32 : Kd.F (Kd.int .u8) _ _ A32 y127.length y127 := (by rw [hA32]; exact hr32)
                    rw [← hy32, ← hA32, ← hc32] at hcut32
                    have HO131 := Aside0.mk (show Kd.V (Kd.int .u8) 5 _ w.heap.size _ (.slice A32 y127.length c32) y127 from Kd.V_mk (by rw [hy32, hc32]; exact Nat.sub_le_sub_right (Nat.le_trans (by omega) hroom32) _) hr32)
                    have HC131 := Aside0.mk (show y127.length ≤ c32 from by rw [hy32, hc32]; exact Nat.sub_le_sub_right (Nat.le_trans (by omega) hroom32) _)
                    clear hr32 hC32 hroom32 hi032 hsz32 hc32
                    have KY32 := Aside0.mk hy32
                    have KA32 := Aside0.mk hA32
                    clear hy32 hA32
                    replace q32 := eq_true q32
                    refine start_ (n := 16) (S := fun w' => w'.cell? ⟨ad126.block, ad126.off + 6, none⟩ = some (.int .u8 (rd l1 6))) (ds := []) #[false, false, false, false, false, false, false, false, false, false, false, false, false, false, false, false] (by kernel_rfl) rfl rfl (hx126_0) (fun hHeld => ?_); refine with_tabW psalteryref19_Read.tab6 psalteryref19_Read.bits6 (fun HT_ HW_ => ?_)
                    generalize w26.drew = w29 at HO1 HO106 HO112 BK101 HB HO118 HO124 HO131 hx126_0 hHeld ⊢
                    refine pure_ (i := 0) (N := some 28) (v := ?_) (a' := ?_) #[true, false, false, false, false, false, false, false, false, false, false, false, false, false, false, false] rfl rfl (any_of HT_.out (by kernel_rfl)) (fun _ _ _ h => h) (Or.inl ⟨by rfl, ?_⟩) ?_ ?_
                    rotate_left
                    · intro w'
                      go_simp
                      with_reducible rfl
                    rotate_left
                    · simp only [Act.put, List.setIfInBounds_toArray, List.set_cons_zero, List.set_cons_succ, i64_w, i32_w]
                      rfl
                    refine pure_ (i := 1) (N := some 29) (v := ?_) (a' := ?_) #[true, true, false, false, false, false, false, false, false, false, false, false, false, false, false, false] rfl rfl (any_of HT_.out (by kernel_rfl)) (fun _ _ _ h => h) (Or.inl ⟨by rfl, ?_⟩) ?_ ?_
                    rotate_left
                    · intro w'
                      go_simp
                      with_reducible rfl
                    rotate_left
                    · simp only [Act.put, List.setIfInBounds_toArray, List.set_cons_zero, List.set_cons_succ, i64_w, i32_w]
                      rfl
                    refine pure_ (i := 3) (N := some 31) (v := ?_) (a' := ?_) #[true, true, false, true, false, false, false, false, false, false, false, false, false, false, false, false] rfl rfl (any_of HT_.out (by kernel_rfl)) (fun _ _ _ h => h) (Or.inl ⟨by rfl, ?_⟩) ?_ ?_
                    rotate_left
                    · intro w'
                      go_simp
                      with_reducible rfl
                    rotate_left
                    · simp only [Act.put, List.setIfInBounds_toArray, List.set_cons_zero, List.set_cons_succ, i64_w, i32_w]
                      rfl
                    refine pure_ (i := 4) (N := some 32) (v := ?_) (a' := ?_) #[true, true, false, true, true, false, false, false, false, false, false, false, false, false, false, false] rfl rfl (any_of HT_.out (by kernel_rfl)) (fun _ _ _ h => h) (Or.inl ⟨by rfl, ?_⟩) ?_ ?_
                    rotate_left
                    · intro w'
                      go_simp
                      with_reducible rfl
                    rotate_left
                    · simp only [Act.put, List.setIfInBounds_toArray, List.set_cons_zero, List.set_cons_succ, i64_w, i32_w]
                      rfl
                    refine pure_ (i := 6) (N := some 34) (v := ?_) (a' := ?_) #[true, true, false, true, true, false, true, false, false, false, false, false, false, false, false, false] rfl rfl (any_of HT_.out (by kernel_rfl)) (fun _ _ _ h => h) (Or.inl ⟨by rfl, ?_⟩) ?_ ?_
                    rotate_left
                    · intro w'
                      go_simp
                      with_reducible rfl
                    rotate_left
                    · simp only [Act.put, List.setIfInBounds_toArray, List.set_cons_zero, List.set_cons_succ, i64_w, i32_w]
                      rfl
                    refine pure_ (i := 7) (N := some 35) (v := ?_) (a' := ?_) #[true, true, false, true, true, false, true, true, false, false, false, false, false, false, false, false] rfl rfl (any_of HT_.out (by kernel_rfl)) (fun _ _ _ h => h) (Or.inl ⟨by rfl, ?_⟩) ?_ ?_
                    rotate_left
                    · intro w'
                      go_simp
                      with_reducible rfl
                    rotate_left
                    · simp only [Act.put, List.setIfInBounds_toArray, List.set_cons_zero, List.set_cons_succ, i64_w, i32_w]
                      rfl
                    refine pure_ (i := 10) (N := some 38) (v := ?_) (a' := ?_) #[true, true, false, true, true, false, true, true, false, false, true, false, false, false, false, false] rfl rfl (any_of HT_.out (by kernel_rfl)) (fun _ _ _ h => h) (Or.inl ⟨by rfl, ?_⟩) ?_ ?_
                    rotate_left
                    · intro w'
                      go_simp
                      with_reducible rfl
                    rotate_left
                    · simp only [Act.put, List.setIfInBounds_toArray, List.set_cons_zero, List.set_cons_succ, i64_w, i32_w]
                      rfl
                    refine pure_ (i := 11) (N := some 39) (v := ?_) (a' := ?_) #[true, true, false, true, true, false, true, true, false, false, true, true, false, false, false, false] rfl rfl (any_of HT_.out (by kernel_rfl)) (fun _ _ _ h => h) (Or.inl ⟨by rfl, ?_⟩) ?_ ?_
                    rotate_left
                    · intro w'
                      go_simp
                      with_reducible rfl
                    rotate_left
                    · simp only [Act.put, List.setIfInBounds_toArray, List.set_cons_zero, List.set_cons_succ, i64_w, i32_w]
                      rfl
                    refine pure_ (i := 12) (N := some 40) (v := ?_) (a' := ?_) #[true, true, false, true, true, false, true, true, false, false, true, true, true, false, false, false] rfl rfl (any_of HT_.out (by kernel_rfl)) (fun _ _ _ h => h) (Or.inl ⟨by rfl, ?_⟩) ?_ ?_
                    rotate_left
                    · intro w'
                      go_simp
                      with_reducible rfl
                    rotate_left
                    · simp only [Act.put, List.setIfInBounds_toArray, List.set_cons_zero, List.set_cons_succ, i64_w, i32_w]
                      rfl
                    refine take_ (i := 8) (N := some 36) (v := ?_) (a' := ?_) #[true, true, false, true, true, false, true, true, true, false, true, true, true, false, false, false] rfl rfl (take_ofW HT_.out HW_.out (by kernel_rfl)) (fun _ _ _ h => h) (Or.inl ⟨by rfl, ?_⟩) hHeld ?_ ?_
                    rotate_left
                    · intro w' s0
                      go_simp
                      with_reducible rfl
                    rotate_left
                    · simp only [Act.put, List.setIfInBounds_toArray, List.set_cons_zero, List.set_cons_succ, i64_w, i32_w]
                      rfl
                    refine pure_ (i := 9) (N := some 37) (v := ?_) (a' := ?_) #[true, true, false, true, true, false, true, true, true, true, true, true, true, false, false, false] rfl rfl (any_of HT_.out (by kernel_rfl)) (fun _ _ _ h => h) (Or.inl ⟨by rfl, ?_⟩) ?_ ?_
                    rotate_left
                    · intro w'
                      go_simp
                      with_reducible rfl
                    rotate_left
                    · simp only [Act.put, List.setIfInBounds_toArray, List.set_cons_zero, List.set_cons_succ, i64_w, i32_w]
                      rfl
                    refine join_ (σ := Nat) 1 #[true, true, true, true, true, true, true, true, true, true, true, true, true, true, true, false] (fun s_ => [(30, .int .i64 t119), (33, .int .i64 t125), (7, .pointer (some ⟨s_, 0, none⟩)), (41, .agg #[.int .i64 t119, .int .i64 t125, .bool ((rd l1 6) == 1), .slice A32 y127.length c32])]) (fun s_ w' => (w'.cell? ⟨ad126.block, ad126.off + 6, none⟩ = some (.int .u8 (rd l1 6))) ∧ (Kd.V (Kd.int .u8) 5 w' w.heap.size (fun k_ => (P1_ k_ ∨ w.heap.size ≤ k_) ∧ k_ ≠ gb101 ∧ k_ ≠ s_) (.slice (some ad126) l1.length c1) l1) ∧ (Kd.V (Kd.int .u8) 5 w' w.heap.size (fun k_ => (P1_ k_ ∨ w.heap.size ≤ k_) ∧ k_ ≠ gb101 ∧ k_ ≠ s_) (.slice A27 y102.length c27) y102) ∧ (Kd.V (Kd.int .u8) 5 w' w.heap.size (fun k_ => (P1_ k_ ∨ w.heap.size ≤ k_) ∧ k_ ≠ gb101 ∧ k_ ≠ s_) (.slice (some ad126) y108.length c1) y108) ∧ (Kd.V (Kd.int .u8) 5 w' w.heap.size (fun k_ => (P1_ k_ ∨ w.heap.size ≤ k_) ∧ k_ ≠ gb101 ∧ k_ ≠ s_) (.slice (some ad126) y114.length c1) y114) ∧ (Kd.V (Kd.int .u8) 5 w' w.heap.size (fun k_ => (P1_ k_ ∨ w.heap.size ≤ k_) ∧ k_ ≠ gb101 ∧ k_ ≠ s_) (.slice A31 y120.length c31) y120) ∧ (Kd.V (Kd.int .u8) 5 w' w.heap.size (fun k_ => (P1_ k_ ∨ w.heap.size ≤ k_) ∧ k_ ≠ gb101 ∧ k_ ≠ s_) (.slice A32 y127.length c32) y127) ∧ (w'.heap[gb101]? = some (.cells #[.int .i64 0, .int .i64 0, .bool false, .slice none 0 0] 63 (0, 0))) ∧ (w'.heap[s_]? = some (.cells #[.int .i64 0, .int .i64 0, .bool false, .slice none 0 0] 63 (0, 0))) ∧ (w.heap.size ≤ s_) ∧ (w.heap.size ≤ s_) ∧ (gb101 ≠ s_) ∧ (s_ ≠ gb101) ∧ (Below w.heap.size w w')) ?_ ?_
                    rotate_left
                    · intro hCont
                      refine two_ (i := 2) (j := 14) (Ni := some 30) (Nj := some 7) #[true, true, true, true, true, false, true, true, true, true, true, true, true, false, false, false] #[true, true, false, true, true, false, true, true, true, true, true, true, true, false, true, false] rfl rfl rfl rfl (two_of HT_.out (by kernel_rfl)) (by decide) (by decide) (fun K hK => ?_) (fun K hK => ?_)
                      · skip
                        refine goes_ Try.func71 (by kernel_rfl) rfl #[.slice (some ad126) y114.length c1] (by rfl) rfl rfl (by (try simp only [List.map_toArray, List.map_cons, List.map_nil]); first | done | rfl | (simp only [List.length_drop, List.length_take]; rfl)) ?_
                        with_reducible refine (psalteryref19_value.calls _ _ y114 t119 _ ?side1 ?side2 A15.out).mono ?_
                        (case side1 => repeat (first | exact (Kd.V_reads' HO118.out).2.2 | (with_reducible refine Kd.C_alloc ?_ _) | (with_reducible refine Kd.C_drewN ?_ _) | (with_reducible refine Kd.C_drew ?_)))
                        (case side2 => exact (Kd.V_reads' HO118.out).2.1)
                        rintro e w' ⟨rfl, ⟨nd, rfl⟩⟩
                        refine ⟨_, rfl, ?_⟩
                        refine hK.out _ _ (hHeld) (fun hHeld => ?_)
                        clear hK K
                        refine norm_ (a' := ?_) ?_ ?_
                        rotate_left
                        · show Act.put _ (some 30) _ = _
                          simp only [Act.put, List.setIfInBounds_toArray, List.set_cons_zero, List.set_cons_succ, i64_w, i32_w]
                          rfl
                        refine two_ (i := 5) (j := 14) (Ni := some 33) (Nj := some 7) #[true, true, true, true, true, true, true, true, true, true, true, true, true, false, false, false] #[true, true, true, true, true, false, true, true, true, true, true, true, true, false, true, false] rfl rfl rfl rfl (two_of HT_.out (by kernel_rfl)) (by decide) (by decide) (fun K hK => ?_) (fun K hK => ?_)
                        · skip
                          refine goes_ Try.func71 (by kernel_rfl) rfl #[.slice A31 y120.length c31] (by rfl) rfl rfl (by (try simp only [List.map_toArray, List.map_cons, List.map_nil]); first | done | rfl | (simp only [List.length_drop, List.length_take]; rfl)) ?_
                          with_reducible refine (psalteryref19_value.calls _ _ y120 t125 _ ?side1 ?side2 A18.out).mono ?_
                          (case side1 => repeat (first | exact (Kd.V_reads' HO124.out).2.2 | (with_reducible refine Kd.C_alloc ?_ _) | (with_reducible refine Kd.C_drewN ?_ _) | (with_reducible refine Kd.C_drew ?_)))
                          (case side2 => exact (Kd.V_reads' HO124.out).2.1)
                          rintro e w' ⟨rfl, ⟨nd, rfl⟩⟩
                          refine ⟨_, rfl, ?_⟩
                          refine hK.out _ _ (hHeld) (fun hHeld => ?_)
                          clear hK K
                          refine norm_ (a' := ?_) ?_ ?_
                          rotate_left
                          · show Act.put _ (some 33) _ = _
                            simp only [Act.put, List.setIfInBounds_toArray, List.set_cons_zero, List.set_cons_succ, i64_w, i32_w]
                            rfl
                          refine pure_ (i := 13) (N := some 41) (v := ?_) (a' := ?_) #[true, true, true, true, true, true, true, true, true, true, true, true, true, true, false, false] rfl rfl (any_of HT_.out (by kernel_rfl)) (fun _ _ _ h => h) (Or.inl ⟨by rfl, ?_⟩) ?_ ?_
                          rotate_left
                          · intro w'
                            go_simp
                            with_reducible rfl
                          rotate_left
                          · simp only [Act.put, List.setIfInBounds_toArray, List.set_cons_zero, List.set_cons_succ, i64_w, i32_w]
                            rfl
                          refine one_ (i := 14) (N := some 7) #[true, true, true, true, true, true, true, true, true, true, true, true, true, true, true, false] rfl rfl (one_of HT_.out (by kernel_rfl)) (by decide) (fun K hK => ?_)
                          refine box_step ?hg (N := 7) ?hd (cs := #[.int .i64 0, .int .i64 0, .bool false, .slice none 0 0]) (t := 63) ?hr ?_; (case hd => rfl); (case hg => rfl); (case hr => first | (go_simp; done) | (go_simp; rfl))
                          intro gb132 hg w33 hbox hb
                          have HS0_ := (hb.cell (World.block_lt_of_cell? _ _ (hHeld))).trans (hHeld)
                          have n0_ := Aside0.mk (Kd.V_below (Kd.V_elderB (by (with_reducible repeat (first | apply Kd.V_alloc | apply Kd.V_drewN | apply Kd.V_drew)); exact HO1.out) gb132 (Nat.le_of_eq hg.symm)) hb)
                          have n1_ := Aside0.mk (Kd.V_below (Kd.V_elderB (by (with_reducible repeat (first | apply Kd.V_alloc | apply Kd.V_drewN | apply Kd.V_drew)); exact HO106.out) gb132 (Nat.le_of_eq hg.symm)) hb)
                          have n2_ := Aside0.mk (Kd.V_below (Kd.V_elderB (by (with_reducible repeat (first | apply Kd.V_alloc | apply Kd.V_drewN | apply Kd.V_drew)); exact HO112.out) gb132 (Nat.le_of_eq hg.symm)) hb)
                          have n3_ := Aside0.mk (Kd.V_below (Kd.V_elderB (by (with_reducible repeat (first | apply Kd.V_alloc | apply Kd.V_drewN | apply Kd.V_drew)); exact HO118.out) gb132 (Nat.le_of_eq hg.symm)) hb)
                          have n4_ := Aside0.mk (Kd.V_below (Kd.V_elderB (by (with_reducible repeat (first | apply Kd.V_alloc | apply Kd.V_drewN | apply Kd.V_drew)); exact HO124.out) gb132 (Nat.le_of_eq hg.symm)) hb)
                          have n5_ := Aside0.mk (Kd.V_below (Kd.V_elderB (by (with_reducible repeat (first | apply Kd.V_alloc | apply Kd.V_drewN | apply Kd.V_drew)); exact HO131.out) gb132 (Nat.le_of_eq hg.symm)) hb)
                          have n6_ := Aside0.mk (blk_below (g := gb101) (o := .cells #[.int .i64 0, .int .i64 0, .bool false, .slice none 0 0] 63 (0, 0)) (by (with_reducible repeat (first | refine blk_drewN ?_ _ | refine blk_drew ?_ | refine blk_alloc ?_ _)); exact BK101.out) hb)
                          have n7_ := Aside0.mk (below_step (by repeat (first | (with_reducible first | exact HB.out | apply below_alloc | apply pw_below_drewN | apply below_drew1 | refine below_set ?_ GE101.out) | exact HB.out)) hb)
                          have n8_ := Aside0.mk (hbox)
                          have n9_ := Aside0.mk ((by rw [hg]; exact (below_size (by repeat (first | (with_reducible first | exact HB.out | apply below_alloc | apply pw_below_drewN | apply below_drew1 | refine below_set ?_ GE101.out) | exact HB.out))) : w.heap.size ≤ gb132))
                          have n10_ := Aside0.mk ((by rw [hg]; exact (below_size (by repeat (first | (with_reducible first | exact HB.out | apply below_alloc | apply pw_below_drewN | apply below_drew1 | refine below_set ?_ GE101.out) | exact HB.out))) : w.heap.size ≤ gb132))
                          have n11_ := Aside0.mk ((by rw [hg]; exact Nat.ne_of_lt (blk_lt (g := gb101) (o := .cells #[.int .i64 0, .int .i64 0, .bool false, .slice none 0 0] 63 (0, 0)) (by (with_reducible repeat (first | refine blk_drewN ?_ _ | refine blk_drew ?_ | refine blk_alloc ?_ _)); exact BK101.out)) : gb101 ≠ gb132))
                          have n12_ := Aside0.mk ((by rw [hg]; exact Nat.ne_of_gt (blk_lt (g := gb101) (o := .cells #[.int .i64 0, .int .i64 0, .bool false, .slice none 0 0] 63 (0, 0)) (by (with_reducible repeat (first | refine blk_drewN ?_ _ | refine blk_drew ?_ | refine blk_alloc ?_ _)); exact BK101.out)) : gb132 ≠ gb101))
                          clear HO1
                          clear HO106
                          clear HO112
                          clear HO118
                          clear HO124
                          clear HO131
                          clear BK101
                          clear HB
                          have HO1 := n0_
                          have HO106 := n1_
                          have HO112 := n2_
                          have HO118 := n3_
                          have HO124 := n4_
                          have HO131 := n5_
                          have BK101 := n6_
                          have HB := n7_
                          have BK132 := n8_
                          have GW132 := n9_
                          have GE132 := n10_
                          have NB101_132 := n11_
                          have NB132_101 := n12_
                          clear n0_ n1_ n2_ n3_ n4_ n5_ n6_ n7_ n8_ n9_ n10_ n11_ n12_
                          clear hb hbox hg
                          refine hK.out _ _ (HS0_) (fun hHeld => ?_)
                          clear hK K
                          refine norm_ (a' := ?_) ?_ ?_
                          rotate_left
                          · show Act.put _ (some 7) _ = _
                            simp only [Act.put, List.setIfInBounds_toArray, List.set_cons_zero, List.set_cons_succ, i64_w, i32_w]
                            rfl
                          exact norm_ (by simp only [putAll, Act.put, List.setIfInBounds_toArray, List.set_cons_zero, List.set_cons_succ]) (hCont (gb132) _ ⟨hHeld, (by (with_reducible repeat (first | apply Kd.V_alloc | apply Kd.V_drewN | apply Kd.V_drew)); exact Kd.V_mono HO1.out (fun _ hk => ⟨hk.1.1, ⟨hk.1.2, hk.2⟩⟩)), (by (with_reducible repeat (first | apply Kd.V_alloc | apply Kd.V_drewN | apply Kd.V_drew)); exact Kd.V_mono HO106.out (fun _ hk => ⟨hk.1.1, ⟨hk.1.2, hk.2⟩⟩)), (by (with_reducible repeat (first | apply Kd.V_alloc | apply Kd.V_drewN | apply Kd.V_drew)); exact Kd.V_mono HO112.out (fun _ hk => ⟨hk.1.1, ⟨hk.1.2, hk.2⟩⟩)), (by (with_reducible repeat (first | apply Kd.V_alloc | apply Kd.V_drewN | apply Kd.V_drew)); exact Kd.V_mono HO118.out (fun _ hk => ⟨hk.1.1, ⟨hk.1.2, hk.2⟩⟩)), (by (with_reducible repeat (first | apply Kd.V_alloc | apply Kd.V_drewN | apply Kd.V_drew)); exact Kd.V_mono HO124.out (fun _ hk => ⟨hk.1.1, ⟨hk.1.2, hk.2⟩⟩)), (by (with_reducible repeat (first | apply Kd.V_alloc | apply Kd.V_drewN | apply Kd.V_drew)); exact Kd.V_mono HO131.out (fun _ hk => ⟨hk.1.1, ⟨hk.1.2, hk.2⟩⟩)), (by (with_reducible repeat (first | refine blk_drewN ?_ _ | refine blk_drew ?_ | refine blk_alloc ?_ _)); exact BK101.out), (by (with_reducible repeat (first | refine blk_drewN ?_ _ | refine blk_drew ?_ | refine blk_alloc ?_ _)); exact BK132.out), GW132.out, GE132.out, NB101_132.out, NB132_101.out, (by repeat (first | (with_reducible first | exact HB.out | apply below_alloc | apply pw_below_drewN | apply below_drew1 | refine below_set ?_ GE101.out | refine below_set ?_ GE132.out) | exact HB.out))⟩)
                        · skip
                          refine box_step ?hg (N := 7) ?hd (cs := #[.int .i64 0, .int .i64 0, .bool false, .slice none 0 0]) (t := 63) ?hr ?_; (case hd => rfl); (case hg => rfl); (case hr => first | (go_simp; done) | (go_simp; rfl))
                          intro gb132 hg w33 hbox hb
                          have HS0_ := (hb.cell (World.block_lt_of_cell? _ _ (hHeld))).trans (hHeld)
                          have n0_ := Aside0.mk (Kd.V_below (Kd.V_elderB (by (with_reducible repeat (first | apply Kd.V_alloc | apply Kd.V_drewN | apply Kd.V_drew)); exact HO1.out) gb132 (Nat.le_of_eq hg.symm)) hb)
                          have n1_ := Aside0.mk (Kd.V_below (Kd.V_elderB (by (with_reducible repeat (first | apply Kd.V_alloc | apply Kd.V_drewN | apply Kd.V_drew)); exact HO106.out) gb132 (Nat.le_of_eq hg.symm)) hb)
                          have n2_ := Aside0.mk (Kd.V_below (Kd.V_elderB (by (with_reducible repeat (first | apply Kd.V_alloc | apply Kd.V_drewN | apply Kd.V_drew)); exact HO112.out) gb132 (Nat.le_of_eq hg.symm)) hb)
                          have n3_ := Aside0.mk (Kd.V_below (Kd.V_elderB (by (with_reducible repeat (first | apply Kd.V_alloc | apply Kd.V_drewN | apply Kd.V_drew)); exact HO118.out) gb132 (Nat.le_of_eq hg.symm)) hb)
                          have n4_ := Aside0.mk (Kd.V_below (Kd.V_elderB (by (with_reducible repeat (first | apply Kd.V_alloc | apply Kd.V_drewN | apply Kd.V_drew)); exact HO124.out) gb132 (Nat.le_of_eq hg.symm)) hb)
                          have n5_ := Aside0.mk (Kd.V_below (Kd.V_elderB (by (with_reducible repeat (first | apply Kd.V_alloc | apply Kd.V_drewN | apply Kd.V_drew)); exact HO131.out) gb132 (Nat.le_of_eq hg.symm)) hb)
                          have n6_ := Aside0.mk (blk_below (g := gb101) (o := .cells #[.int .i64 0, .int .i64 0, .bool false, .slice none 0 0] 63 (0, 0)) (by (with_reducible repeat (first | refine blk_drewN ?_ _ | refine blk_drew ?_ | refine blk_alloc ?_ _)); exact BK101.out) hb)
                          have n7_ := Aside0.mk (below_step (by repeat (first | (with_reducible first | exact HB.out | apply below_alloc | apply pw_below_drewN | apply below_drew1 | refine below_set ?_ GE101.out) | exact HB.out)) hb)
                          have n8_ := Aside0.mk (hbox)
                          have n9_ := Aside0.mk ((by rw [hg]; exact (below_size (by repeat (first | (with_reducible first | exact HB.out | apply below_alloc | apply pw_below_drewN | apply below_drew1 | refine below_set ?_ GE101.out) | exact HB.out))) : w.heap.size ≤ gb132))
                          have n10_ := Aside0.mk ((by rw [hg]; exact (below_size (by repeat (first | (with_reducible first | exact HB.out | apply below_alloc | apply pw_below_drewN | apply below_drew1 | refine below_set ?_ GE101.out) | exact HB.out))) : w.heap.size ≤ gb132))
                          have n11_ := Aside0.mk ((by rw [hg]; exact Nat.ne_of_lt (blk_lt (g := gb101) (o := .cells #[.int .i64 0, .int .i64 0, .bool false, .slice none 0 0] 63 (0, 0)) (by (with_reducible repeat (first | refine blk_drewN ?_ _ | refine blk_drew ?_ | refine blk_alloc ?_ _)); exact BK101.out)) : gb101 ≠ gb132))
                          have n12_ := Aside0.mk ((by rw [hg]; exact Nat.ne_of_gt (blk_lt (g := gb101) (o := .cells #[.int .i64 0, .int .i64 0, .bool false, .slice none 0 0] 63 (0, 0)) (by (with_reducible repeat (first | refine blk_drewN ?_ _ | refine blk_drew ?_ | refine blk_alloc ?_ _)); exact BK101.out)) : gb132 ≠ gb101))
                          clear HO1
                          clear HO106
                          clear HO112
                          clear HO118
                          clear HO124
                          clear HO131
                          clear BK101
                          clear HB
                          have HO1 := n0_
                          have HO106 := n1_
                          have HO112 := n2_
                          have HO118 := n3_
                          have HO124 := n4_
                          have HO131 := n5_
                          have BK101 := n6_
                          have HB := n7_
                          have BK132 := n8_
                          have GW132 := n9_
                          have GE132 := n10_
                          have NB101_132 := n11_
                          have NB132_101 := n12_
                          clear n0_ n1_ n2_ n3_ n4_ n5_ n6_ n7_ n8_ n9_ n10_ n11_ n12_
                          clear hb hbox hg
                          refine hK.out _ _ (HS0_) (fun hHeld => ?_)
                          clear hK K
                          refine norm_ (a' := ?_) ?_ ?_
                          rotate_left
                          · show Act.put _ (some 7) _ = _
                            simp only [Act.put, List.setIfInBounds_toArray, List.set_cons_zero, List.set_cons_succ, i64_w, i32_w]
                            rfl
                          refine one_ (i := 5) (N := some 33) #[true, true, true, true, true, true, true, true, true, true, true, true, true, false, true, false] rfl rfl (one_of HT_.out (by kernel_rfl)) (by decide) (fun K hK => ?_)
                          refine goes_ Try.func71 (by kernel_rfl) rfl #[.slice A31 y120.length c31] (by rfl) rfl rfl (by (try simp only [List.map_toArray, List.map_cons, List.map_nil]); first | done | rfl | (simp only [List.length_drop, List.length_take]; rfl)) ?_
                          with_reducible refine (psalteryref19_value.calls _ _ y120 t125 _ ?side1 ?side2 A18.out).mono ?_
                          (case side1 => repeat (first | exact (Kd.V_reads' HO124.out).2.2 | (with_reducible refine Kd.C_alloc ?_ _) | (with_reducible refine Kd.C_drewN ?_ _) | (with_reducible refine Kd.C_drew ?_)))
                          (case side2 => exact (Kd.V_reads' HO124.out).2.1)
                          rintro e w' ⟨rfl, ⟨nd, rfl⟩⟩
                          refine ⟨_, rfl, ?_⟩
                          refine hK.out _ _ (hHeld) (fun hHeld => ?_)
                          clear hK K
                          refine norm_ (a' := ?_) ?_ ?_
                          rotate_left
                          · show Act.put _ (some 33) _ = _
                            simp only [Act.put, List.setIfInBounds_toArray, List.set_cons_zero, List.set_cons_succ, i64_w, i32_w]
                            rfl
                          refine pure_ (i := 13) (N := some 41) (v := ?_) (a' := ?_) #[true, true, true, true, true, true, true, true, true, true, true, true, true, true, true, false] rfl rfl (any_of HT_.out (by kernel_rfl)) (fun _ _ _ h => h) (Or.inl ⟨by rfl, ?_⟩) ?_ ?_
                          rotate_left
                          · intro w'
                            go_simp
                            with_reducible rfl
                          rotate_left
                          · simp only [Act.put, List.setIfInBounds_toArray, List.set_cons_zero, List.set_cons_succ, i64_w, i32_w]
                            rfl
                          exact norm_ (by simp only [putAll, Act.put, List.setIfInBounds_toArray, List.set_cons_zero, List.set_cons_succ]) (hCont (gb132) _ ⟨hHeld, (by (with_reducible repeat (first | apply Kd.V_alloc | apply Kd.V_drewN | apply Kd.V_drew)); exact Kd.V_mono HO1.out (fun _ hk => ⟨hk.1.1, ⟨hk.1.2, hk.2⟩⟩)), (by (with_reducible repeat (first | apply Kd.V_alloc | apply Kd.V_drewN | apply Kd.V_drew)); exact Kd.V_mono HO106.out (fun _ hk => ⟨hk.1.1, ⟨hk.1.2, hk.2⟩⟩)), (by (with_reducible repeat (first | apply Kd.V_alloc | apply Kd.V_drewN | apply Kd.V_drew)); exact Kd.V_mono HO112.out (fun _ hk => ⟨hk.1.1, ⟨hk.1.2, hk.2⟩⟩)), (by (with_reducible repeat (first | apply Kd.V_alloc | apply Kd.V_drewN | apply Kd.V_drew)); exact Kd.V_mono HO118.out (fun _ hk => ⟨hk.1.1, ⟨hk.1.2, hk.2⟩⟩)), (by (with_reducible repeat (first | apply Kd.V_alloc | apply Kd.V_drewN | apply Kd.V_drew)); exact Kd.V_mono HO124.out (fun _ hk => ⟨hk.1.1, ⟨hk.1.2, hk.2⟩⟩)), (by (with_reducible repeat (first | apply Kd.V_alloc | apply Kd.V_drewN | apply Kd.V_drew)); exact Kd.V_mono HO131.out (fun _ hk => ⟨hk.1.1, ⟨hk.1.2, hk.2⟩⟩)), (by (with_reducible repeat (first | refine blk_drewN ?_ _ | refine blk_drew ?_ | refine blk_alloc ?_ _)); exact BK101.out), (by (with_reducible repeat (first | refine blk_drewN ?_ _ | refine blk_drew ?_ | refine blk_alloc ?_ _)); exact BK132.out), GW132.out, GE132.out, NB101_132.out, NB132_101.out, (by repeat (first | (with_reducible first | exact HB.out | apply below_alloc | apply pw_below_drewN | apply below_drew1 | refine below_set ?_ GE101.out | refine below_set ?_ GE132.out) | exact HB.out))⟩)
                      · skip
                        refine box_step ?hg (N := 7) ?hd (cs := #[.int .i64 0, .int .i64 0, .bool false, .slice none 0 0]) (t := 63) ?hr ?_; (case hd => rfl); (case hg => rfl); (case hr => first | (go_simp; done) | (go_simp; rfl))
                        intro gb132 hg w33 hbox hb
                        have HS0_ := (hb.cell (World.block_lt_of_cell? _ _ (hHeld))).trans (hHeld)
                        have n0_ := Aside0.mk (Kd.V_below (Kd.V_elderB (by (with_reducible repeat (first | apply Kd.V_alloc | apply Kd.V_drewN | apply Kd.V_drew)); exact HO1.out) gb132 (Nat.le_of_eq hg.symm)) hb)
                        have n1_ := Aside0.mk (Kd.V_below (Kd.V_elderB (by (with_reducible repeat (first | apply Kd.V_alloc | apply Kd.V_drewN | apply Kd.V_drew)); exact HO106.out) gb132 (Nat.le_of_eq hg.symm)) hb)
                        have n2_ := Aside0.mk (Kd.V_below (Kd.V_elderB (by (with_reducible repeat (first | apply Kd.V_alloc | apply Kd.V_drewN | apply Kd.V_drew)); exact HO112.out) gb132 (Nat.le_of_eq hg.symm)) hb)
                        have n3_ := Aside0.mk (Kd.V_below (Kd.V_elderB (by (with_reducible repeat (first | apply Kd.V_alloc | apply Kd.V_drewN | apply Kd.V_drew)); exact HO118.out) gb132 (Nat.le_of_eq hg.symm)) hb)
                        have n4_ := Aside0.mk (Kd.V_below (Kd.V_elderB (by (with_reducible repeat (first | apply Kd.V_alloc | apply Kd.V_drewN | apply Kd.V_drew)); exact HO124.out) gb132 (Nat.le_of_eq hg.symm)) hb)
                        have n5_ := Aside0.mk (Kd.V_below (Kd.V_elderB (by (with_reducible repeat (first | apply Kd.V_alloc | apply Kd.V_drewN | apply Kd.V_drew)); exact HO131.out) gb132 (Nat.le_of_eq hg.symm)) hb)
                        have n6_ := Aside0.mk (blk_below (g := gb101) (o := .cells #[.int .i64 0, .int .i64 0, .bool false, .slice none 0 0] 63 (0, 0)) (by (with_reducible repeat (first | refine blk_drewN ?_ _ | refine blk_drew ?_ | refine blk_alloc ?_ _)); exact BK101.out) hb)
                        have n7_ := Aside0.mk (below_step (by repeat (first | (with_reducible first | exact HB.out | apply below_alloc | apply pw_below_drewN | apply below_drew1 | refine below_set ?_ GE101.out) | exact HB.out)) hb)
                        have n8_ := Aside0.mk (hbox)
                        have n9_ := Aside0.mk ((by rw [hg]; exact (below_size (by repeat (first | (with_reducible first | exact HB.out | apply below_alloc | apply pw_below_drewN | apply below_drew1 | refine below_set ?_ GE101.out) | exact HB.out))) : w.heap.size ≤ gb132))
                        have n10_ := Aside0.mk ((by rw [hg]; exact (below_size (by repeat (first | (with_reducible first | exact HB.out | apply below_alloc | apply pw_below_drewN | apply below_drew1 | refine below_set ?_ GE101.out) | exact HB.out))) : w.heap.size ≤ gb132))
                        have n11_ := Aside0.mk ((by rw [hg]; exact Nat.ne_of_lt (blk_lt (g := gb101) (o := .cells #[.int .i64 0, .int .i64 0, .bool false, .slice none 0 0] 63 (0, 0)) (by (with_reducible repeat (first | refine blk_drewN ?_ _ | refine blk_drew ?_ | refine blk_alloc ?_ _)); exact BK101.out)) : gb101 ≠ gb132))
                        have n12_ := Aside0.mk ((by rw [hg]; exact Nat.ne_of_gt (blk_lt (g := gb101) (o := .cells #[.int .i64 0, .int .i64 0, .bool false, .slice none 0 0] 63 (0, 0)) (by (with_reducible repeat (first | refine blk_drewN ?_ _ | refine blk_drew ?_ | refine blk_alloc ?_ _)); exact BK101.out)) : gb132 ≠ gb101))
                        clear HO1
                        clear HO106
                        clear HO112
                        clear HO118
                        clear HO124
                        clear HO131
                        clear BK101
                        clear HB
                        have HO1 := n0_
                        have HO106 := n1_
                        have HO112 := n2_
                        have HO118 := n3_
                        have HO124 := n4_
                        have HO131 := n5_
                        have BK101 := n6_
                        have HB := n7_
                        have BK132 := n8_
                        have GW132 := n9_
                        have GE132 := n10_
                        have NB101_132 := n11_
                        have NB132_101 := n12_
                        clear n0_ n1_ n2_ n3_ n4_ n5_ n6_ n7_ n8_ n9_ n10_ n11_ n12_
                        clear hb hbox hg
                        refine hK.out _ _ (HS0_) (fun hHeld => ?_)
                        clear hK K
                        refine norm_ (a' := ?_) ?_ ?_
                        rotate_left
                        · show Act.put _ (some 7) _ = _
                          simp only [Act.put, List.setIfInBounds_toArray, List.set_cons_zero, List.set_cons_succ, i64_w, i32_w]
                          rfl
                        refine one_ (i := 2) (N := some 30) #[true, true, true, true, true, false, true, true, true, true, true, true, true, false, true, false] rfl rfl (one_of HT_.out (by kernel_rfl)) (by decide) (fun K hK => ?_)
                        refine goes_ Try.func71 (by kernel_rfl) rfl #[.slice (some ad126) y114.length c1] (by rfl) rfl rfl (by (try simp only [List.map_toArray, List.map_cons, List.map_nil]); first | done | rfl | (simp only [List.length_drop, List.length_take]; rfl)) ?_
                        with_reducible refine (psalteryref19_value.calls _ _ y114 t119 _ ?side1 ?side2 A15.out).mono ?_
                        (case side1 => repeat (first | exact (Kd.V_reads' HO118.out).2.2 | (with_reducible refine Kd.C_alloc ?_ _) | (with_reducible refine Kd.C_drewN ?_ _) | (with_reducible refine Kd.C_drew ?_)))
                        (case side2 => exact (Kd.V_reads' HO118.out).2.1)
                        rintro e w' ⟨rfl, ⟨nd, rfl⟩⟩
                        refine ⟨_, rfl, ?_⟩
                        refine hK.out _ _ (hHeld) (fun hHeld => ?_)
                        clear hK K
                        refine norm_ (a' := ?_) ?_ ?_
                        rotate_left
                        · show Act.put _ (some 30) _ = _
                          simp only [Act.put, List.setIfInBounds_toArray, List.set_cons_zero, List.set_cons_succ, i64_w, i32_w]
                          rfl
                        refine one_ (i := 5) (N := some 33) #[true, true, true, true, true, true, true, true, true, true, true, true, true, false, true, false] rfl rfl (one_of HT_.out (by kernel_rfl)) (by decide) (fun K hK => ?_)
                        refine goes_ Try.func71 (by kernel_rfl) rfl #[.slice A31 y120.length c31] (by rfl) rfl rfl (by (try simp only [List.map_toArray, List.map_cons, List.map_nil]); first | done | rfl | (simp only [List.length_drop, List.length_take]; rfl)) ?_
                        with_reducible refine (psalteryref19_value.calls _ _ y120 t125 _ ?side1 ?side2 A18.out).mono ?_
                        (case side1 => repeat (first | exact (Kd.V_reads' HO124.out).2.2 | (with_reducible refine Kd.C_alloc ?_ _) | (with_reducible refine Kd.C_drewN ?_ _) | (with_reducible refine Kd.C_drew ?_)))
                        (case side2 => exact (Kd.V_reads' HO124.out).2.1)
                        rintro e w' ⟨rfl, ⟨nd, rfl⟩⟩
                        refine ⟨_, rfl, ?_⟩
                        refine hK.out _ _ (hHeld) (fun hHeld => ?_)
                        clear hK K
                        refine norm_ (a' := ?_) ?_ ?_
                        rotate_left
                        · show Act.put _ (some 33) _ = _
                          simp only [Act.put, List.setIfInBounds_toArray, List.set_cons_zero, List.set_cons_succ, i64_w, i32_w]
                          rfl
                        refine pure_ (i := 13) (N := some 41) (v := ?_) (a' := ?_) #[true, true, true, true, true, true, true, true, true, true, true, true, true, true, true, false] rfl rfl (any_of HT_.out (by kernel_rfl)) (fun _ _ _ h => h) (Or.inl ⟨by rfl, ?_⟩) ?_ ?_
                        rotate_left
                        · intro w'
                          go_simp
                          with_reducible rfl
                        rotate_left
                        · simp only [Act.put, List.setIfInBounds_toArray, List.set_cons_zero, List.set_cons_succ, i64_w, i32_w]
                          rfl
                        exact norm_ (by simp only [putAll, Act.put, List.setIfInBounds_toArray, List.set_cons_zero, List.set_cons_succ]) (hCont (gb132) _ ⟨hHeld, (by (with_reducible repeat (first | apply Kd.V_alloc | apply Kd.V_drewN | apply Kd.V_drew)); exact Kd.V_mono HO1.out (fun _ hk => ⟨hk.1.1, ⟨hk.1.2, hk.2⟩⟩)), (by (with_reducible repeat (first | apply Kd.V_alloc | apply Kd.V_drewN | apply Kd.V_drew)); exact Kd.V_mono HO106.out (fun _ hk => ⟨hk.1.1, ⟨hk.1.2, hk.2⟩⟩)), (by (with_reducible repeat (first | apply Kd.V_alloc | apply Kd.V_drewN | apply Kd.V_drew)); exact Kd.V_mono HO112.out (fun _ hk => ⟨hk.1.1, ⟨hk.1.2, hk.2⟩⟩)), (by (with_reducible repeat (first | apply Kd.V_alloc | apply Kd.V_drewN | apply Kd.V_drew)); exact Kd.V_mono HO118.out (fun _ hk => ⟨hk.1.1, ⟨hk.1.2, hk.2⟩⟩)), (by (with_reducible repeat (first | apply Kd.V_alloc | apply Kd.V_drewN | apply Kd.V_drew)); exact Kd.V_mono HO124.out (fun _ hk => ⟨hk.1.1, ⟨hk.1.2, hk.2⟩⟩)), (by (with_reducible repeat (first | apply Kd.V_alloc | apply Kd.V_drewN | apply Kd.V_drew)); exact Kd.V_mono HO131.out (fun _ hk => ⟨hk.1.1, ⟨hk.1.2, hk.2⟩⟩)), (by (with_reducible repeat (first | refine blk_drewN ?_ _ | refine blk_drew ?_ | refine blk_alloc ?_ _)); exact BK101.out), (by (with_reducible repeat (first | refine blk_drewN ?_ _ | refine blk_drew ?_ | refine blk_alloc ?_ _)); exact BK132.out), GW132.out, GE132.out, NB101_132.out, NB132_101.out, (by repeat (first | (with_reducible first | exact HB.out | apply below_alloc | apply pw_below_drewN | apply below_drew1 | refine below_set ?_ GE101.out | refine below_set ?_ GE132.out) | exact HB.out))⟩)
                    rintro gb132 w34 ⟨hS_, h0_, h1_, h2_, h3_, h4_, h5_, h6_, h7_, h8_, h9_, h10_, h11_, h12_⟩
                    have n0_ : Aside0 (Kd.V (Kd.int .u8) 5 w34 w.heap.size (fun k_ => (P1_ k_ ∨ w.heap.size ≤ k_) ∧ k_ ≠ gb101 ∧ k_ ≠ gb132) (.slice (some ad126) l1.length c1) l1) := ⟨h0_⟩
                    have n1_ : Aside0 (Kd.V (Kd.int .u8) 5 w34 w.heap.size (fun k_ => (P1_ k_ ∨ w.heap.size ≤ k_) ∧ k_ ≠ gb101 ∧ k_ ≠ gb132) (.slice A27 y102.length c27) y102) := ⟨h1_⟩
                    have n2_ : Aside0 (Kd.V (Kd.int .u8) 5 w34 w.heap.size (fun k_ => (P1_ k_ ∨ w.heap.size ≤ k_) ∧ k_ ≠ gb101 ∧ k_ ≠ gb132) (.slice (some ad126) y108.length c1) y108) := ⟨h2_⟩
                    have n3_ : Aside0 (Kd.V (Kd.int .u8) 5 w34 w.heap.size (fun k_ => (P1_ k_ ∨ w.heap.size ≤ k_) ∧ k_ ≠ gb101 ∧ k_ ≠ gb132) (.slice (some ad126) y114.length c1) y114) := ⟨h3_⟩
                    have n4_ : Aside0 (Kd.V (Kd.int .u8) 5 w34 w.heap.size (fun k_ => (P1_ k_ ∨ w.heap.size ≤ k_) ∧ k_ ≠ gb101 ∧ k_ ≠ gb132) (.slice A31 y120.length c31) y120) := ⟨h4_⟩
                    have n5_ : Aside0 (Kd.V (Kd.int .u8) 5 w34 w.heap.size (fun k_ => (P1_ k_ ∨ w.heap.size ≤ k_) ∧ k_ ≠ gb101 ∧ k_ ≠ gb132) (.slice A32 y127.length c32) y127) := ⟨h5_⟩
                    have n6_ : Aside0 (w34.heap[gb101]? = some (.cells #[.int .i64 0, .int .i64 0, .bool false, .slice none 0 0] 63 (0, 0))) := ⟨h6_⟩
                    have n7_ : Aside0 (w34.heap[gb132]? = some (.cells #[.int .i64 0, .int .i64 0, .bool false, .slice none 0 0] 63 (0, 0))) := ⟨h7_⟩
                    have n8_ : Aside0 (w.heap.size ≤ gb132) := ⟨h8_⟩
                    have n9_ : Aside0 (w.heap.size ≤ gb132) := ⟨h9_⟩
                    have n10_ : Aside0 (gb101 ≠ gb132) := ⟨h10_⟩
                    have n11_ : Aside0 (gb132 ≠ gb101) := ⟨h11_⟩
                    have n12_ : Aside0 (Below w.heap.size w w34) := ⟨h12_⟩
                    clear HO1
                    clear HO106
                    clear HO112
                    clear BK101
                    clear HB
                    clear h0_ h1_ h2_ h3_ h4_ h5_ h6_ h7_ h8_ h9_ h10_ h11_ h12_
                    have HO1 := n0_
                    have HO106 := n1_
                    have HO112 := n2_
                    have HO118 := n3_
                    have HO124 := n4_
                    have HO131 := n5_
                    have BK101 := n6_
                    have BK132 := n7_
                    have GW132 := n8_
                    have GE132 := n9_
                    have NB101_132 := n10_
                    have NB132_101 := n11_
                    have HB := n12_
                    clear n0_ n1_ n2_ n3_ n4_ n5_ n6_ n7_ n8_ n9_ n10_ n11_ n12_
                    have hHeld : w34.cell? ⟨ad126.block, ad126.off + 6, none⟩ = some (.int .u8 (rd l1 6)) := hS_
                    refine norm_ (a' := ?_) ?_ ?_
                    rotate_left
                    · simp only [putAll, Act.put, List.setIfInBounds_toArray, List.set_cons_zero, List.set_cons_succ]
                      rfl
                    refine one_ (i := 15) (N := none) #[true, true, true, true, true, true, true, true, true, true, true, true, true, true, true, true] rfl rfl (one_of HT_.out (by kernel_rfl)) (by decide) (fun K hK => ?_)
                    have hs35 : w34.cell? ⟨gb132, 0, none⟩ = some (.int .i64 0) := (blk_cell BK132.out 0).trans rfl
                    have hfs35 := blk_frozen BK132.out 0
                    have hns35_0 := NB101_132.out
                    have hms35_0 := NB132_101.out
                    have hs36 : w34.cell? ⟨gb132, 1, none⟩ = some (.int .i64 0) := (blk_cell BK132.out 1).trans rfl
                    have hfs36 := blk_frozen BK132.out 1
                    have hns36_0 := NB101_132.out
                    have hms36_0 := NB132_101.out
                    have hs37 : w34.cell? ⟨gb132, 2, none⟩ = some (.bool false) := (blk_cell BK132.out 2).trans rfl
                    have hfs37 := blk_frozen BK132.out 2
                    have hns37_0 := NB101_132.out
                    have hms37_0 := NB132_101.out
                    have hs38 : w34.cell? ⟨gb132, 3, none⟩ = some (.slice none 0 0) := (blk_cell BK132.out 3).trans rfl
                    have hfs38 := blk_frozen BK132.out 3
                    have hns38_0 := NB101_132.out
                    have hms38_0 := NB132_101.out
                    refine skip_ (w1 := ?_) (by rfl) rfl ?_ ?_
                    rotate_left
                    · go_simp
                      rfl
                    refine hK.out _ _ (((cell_far (p := ⟨gb132, _, none⟩) (by first | exact Kd.own_blk (V_away8 HO1.out (Nat.lt_of_le_of_lt (Nat.zero_le 6) (of_decide_eq_true (p := 6 < l1.length) (by assumption))) (fun _ hk => hk.2.2)) | (rw [add_block]; exact Kd.own_blk (V_away8 HO1.out (Nat.lt_of_le_of_lt (Nat.zero_le 6) (of_decide_eq_true (p := 6 < l1.length) (by assumption))) (fun _ hk => hk.2.2))) | (show (Addr.add _ _).block ≠ _; rw [add_block]; exact Kd.own_blk (V_away8 HO1.out (Nat.lt_of_le_of_lt (Nat.zero_le 6) (of_decide_eq_true (p := 6 < l1.length) (by assumption))) (fun _ hk => hk.2.2))) | (dsimp only; exact Kd.own_blk (V_away8 HO1.out (Nat.lt_of_le_of_lt (Nat.zero_le 6) (of_decide_eq_true (p := 6 < l1.length) (by assumption))) (fun _ hk => hk.2.2)))) _).trans (((cell_far (p := ⟨gb132, _, none⟩) (by first | exact Kd.own_blk (V_away8 HO1.out (Nat.lt_of_le_of_lt (Nat.zero_le 6) (of_decide_eq_true (p := 6 < l1.length) (by assumption))) (fun _ hk => hk.2.2)) | (rw [add_block]; exact Kd.own_blk (V_away8 HO1.out (Nat.lt_of_le_of_lt (Nat.zero_le 6) (of_decide_eq_true (p := 6 < l1.length) (by assumption))) (fun _ hk => hk.2.2))) | (show (Addr.add _ _).block ≠ _; rw [add_block]; exact Kd.own_blk (V_away8 HO1.out (Nat.lt_of_le_of_lt (Nat.zero_le 6) (of_decide_eq_true (p := 6 < l1.length) (by assumption))) (fun _ hk => hk.2.2))) | (dsimp only; exact Kd.own_blk (V_away8 HO1.out (Nat.lt_of_le_of_lt (Nat.zero_le 6) (of_decide_eq_true (p := 6 < l1.length) (by assumption))) (fun _ hk => hk.2.2)))) _).trans (((cell_far (p := ⟨gb132, _, none⟩) (by first | exact Kd.own_blk (V_away8 HO1.out (Nat.lt_of_le_of_lt (Nat.zero_le 6) (of_decide_eq_true (p := 6 < l1.length) (by assumption))) (fun _ hk => hk.2.2)) | (rw [add_block]; exact Kd.own_blk (V_away8 HO1.out (Nat.lt_of_le_of_lt (Nat.zero_le 6) (of_decide_eq_true (p := 6 < l1.length) (by assumption))) (fun _ hk => hk.2.2))) | (show (Addr.add _ _).block ≠ _; rw [add_block]; exact Kd.own_blk (V_away8 HO1.out (Nat.lt_of_le_of_lt (Nat.zero_le 6) (of_decide_eq_true (p := 6 < l1.length) (by assumption))) (fun _ hk => hk.2.2))) | (dsimp only; exact Kd.own_blk (V_away8 HO1.out (Nat.lt_of_le_of_lt (Nat.zero_le 6) (of_decide_eq_true (p := 6 < l1.length) (by assumption))) (fun _ hk => hk.2.2)))) _).trans (((cell_far (p := ⟨gb132, _, none⟩) (by first | exact Kd.own_blk (V_away8 HO1.out (Nat.lt_of_le_of_lt (Nat.zero_le 6) (of_decide_eq_true (p := 6 < l1.length) (by assumption))) (fun _ hk => hk.2.2)) | (rw [add_block]; exact Kd.own_blk (V_away8 HO1.out (Nat.lt_of_le_of_lt (Nat.zero_le 6) (of_decide_eq_true (p := 6 < l1.length) (by assumption))) (fun _ hk => hk.2.2))) | (show (Addr.add _ _).block ≠ _; rw [add_block]; exact Kd.own_blk (V_away8 HO1.out (Nat.lt_of_le_of_lt (Nat.zero_le 6) (of_decide_eq_true (p := 6 < l1.length) (by assumption))) (fun _ hk => hk.2.2))) | (dsimp only; exact Kd.own_blk (V_away8 HO1.out (Nat.lt_of_le_of_lt (Nat.zero_le 6) (of_decide_eq_true (p := 6 < l1.length) (by assumption))) (fun _ hk => hk.2.2)))) _).trans (hHeld))))))))) (fun hHeld => ?_)
                    clear hK K
                    refine done_ (done_of HT_.out (by kernel_rfl)) ?_
                    have p133 : 0 ≤ (6 : Int) := (by omega)
                    have q133 : 6 < (l1.length : Int) := of_decide_eq_true (by first | (with_reducible assumption) | assumption)
                    obtain ⟨ad133, e133, hx133_0⟩ := Kd.at_int (Kd.V_reads' HO1.out).2.2 6 p133 q133
                    obtain rfl : ad126 = ad133 := (by injection e133)
                    (try simp only [show (6 : Int).toNat = 6 from rfl, Nat.reduceMul, Nat.reduceEqDiff, Go.Addr.add, ↓reduceIte] at hx133_0)
                    have qi133 : (6 < l1.length) = True := eq_true (by omega)
                    (try rw [show ((6 : Int)).toNat = 6 from rfl] at hx133_0)
                    have hn133_0 : ad126.block ≠ gb132 := Kd.own_blk (V_away8 HO1.out (Nat.lt_of_le_of_lt (Nat.zero_le 6) (of_decide_eq_true (p := 6 < l1.length) (by assumption))) (fun _ hk => by first | exact hk.2 | exact hk.2.2 | exact hk.1.2))
                    have hn133_1 : ad126.block ≠ gb132 := Kd.own_blk (V_away8 HO1.out (Nat.lt_of_le_of_lt (Nat.zero_le 6) (of_decide_eq_true (p := 6 < l1.length) (by assumption))) (fun _ hk => by first | exact hk.2 | exact hk.2.2 | exact hk.1.2))
                    have hn133_2 : ad126.block ≠ gb132 := Kd.own_blk (V_away8 HO1.out (Nat.lt_of_le_of_lt (Nat.zero_le 6) (of_decide_eq_true (p := 6 < l1.length) (by assumption))) (fun _ hk => by first | exact hk.2 | exact hk.2.2 | exact hk.1.2))
                    have hn133_3 : ad126.block ≠ gb132 := Kd.own_blk (V_away8 HO1.out (Nat.lt_of_le_of_lt (Nat.zero_le 6) (of_decide_eq_true (p := 6 < l1.length) (by assumption))) (fun _ hk => by first | exact hk.2 | exact hk.2.2 | exact hk.1.2))
                    replace hx133_0 := (cell_far (p := ⟨gb132, 0, none⟩) (by first | (rw [add_block]; exact hn133_0) | (show (Addr.add _ _).block ≠ _; rw [add_block]; exact hn133_0) | exact hn133_0) (.int .i64 t119)).trans hx133_0
                    replace hx133_0 := (cell_far (p := ⟨gb132, 1, none⟩) (by first | (rw [add_block]; exact hn133_1) | (show (Addr.add _ _).block ≠ _; rw [add_block]; exact hn133_1) | exact hn133_1) (.int .i64 t125)).trans hx133_0
                    replace hx133_0 := (cell_far (p := ⟨gb132, 2, none⟩) (by first | (rw [add_block]; exact hn133_2) | (show (Addr.add _ _).block ≠ _; rw [add_block]; exact hn133_2) | exact hn133_2) (.bool ((rd l1 6) == 1))).trans hx133_0
                    replace hx133_0 := (cell_far (p := ⟨gb132, 3, none⟩) (by first | (rw [add_block]; exact hn133_3) | (show (Addr.add _ _).block ≠ _; rw [add_block]; exact hn133_3) | exact hn133_3) (.slice A32 y127.length c32)).trans hx133_0
                    clear hn133_0
                    clear hn133_1
                    clear hn133_2
                    clear hn133_3
                    replace p133 := eq_true p133
                    replace q133 := eq_true q133
                    have H := HMg_.out
                    clear HMg_
                    by_cases c22 : (rd l1 6) = 0
                    · rw [if_pos c22] at H
                      have c22b0 : ((rd l1 6) == 0) = true := beq_iff_eq.mpr c22
                      have c22b1 : ((rd l1 6) != 0) = false := bne_eq_false_iff_eq.mpr c22
                      clear c22
                      replace H := Option.bind_eq_some_iff.mp H
                      obtain ⟨t134, A230, H⟩ := H
                      replace H : (if t134 = true then (some (t119, t125, ((rd l1 6) == 1), y127, 0)) else (some (0, 0, false, ([] : List Int), 2))) = some (r1, r2, r3, r4, r5) := H
                      have A23 := Aside0.mk A230
                      clear A230
                      have HMg_ := Aside0.mk H
                      clear H
                      have hnb39 := NB132_101.out
                      have hnc39 := NB101_132.out
                      have hcz40_0 : w34.cell? ⟨gb132, 0, none⟩ = some (.int .i64 0) := (blk_cell BK132.out 0).trans rfl
                      have hcz40_1 : w34.cell? ⟨gb132, 1, none⟩ = some (.int .i64 0) := (blk_cell BK132.out 1).trans rfl
                      have hcz40_2 : w34.cell? ⟨gb132, 2, none⟩ = some (.bool false) := (by first | exact (blk_cell BK132.out 2).trans rfl | (refine (blk_cell BK132.out 2).trans ?_; show some (Value.bool _) = some (Value.bool _); congr 2; first | (with_reducible assumption) | exact Eq.symm (Aside0.out (by with_reducible assumption))))
                      have hcz40_3 : w34.cell? ⟨gb132, 3, none⟩ = some (.slice none 0 0) := (blk_cell BK132.out 3).trans rfl
                      have hfz40_0 := blk_frozen BK132.out 0
                      have hfz40_1 := blk_frozen BK132.out 1
                      have hfz40_2 := blk_frozen BK132.out 2
                      have hfz40_3 := blk_frozen BK132.out 3
                      have H := HMg_.out
                      clear HMg_
                      by_cases c24 : t134 = true
                      · subst c24
                        have H1 : (some (t119, t125, ((rd l1 6) == 1), y127, 0)) = some (r1, r2, r3, r4, r5) := by rw [if_pos rfl] at H; exact H
                        clear H
                        have H := H1
                        clear H1
                        simp only [Option.some.injEq, Prod.mk.injEq] at H
                        have HMe_ := Aside0.mk H
                        clear H
                        try go_wp2_with (first | (go_at_call 43; (with_reducible refine (psalteryref19_Right.calls t119 t125 ((rd l1 6) == 1) _ _ y127 true _ ?side1 ?side2 A23.out).mono ?_); (case side1 => refine (Kd.V_reads' (e := 5) (base := w.heap.size) (ok := fun k_ => ((P1_ k_ ∨ w.heap.size ≤ k_) ∧ (k_ ≠ gb101 ∧ k_ ≠ gb132))) (n := y127.length) (c := c32) ?_).2.2; exact (by (with_reducible repeat (first | apply Kd.V_alloc | apply Kd.V_drewN | apply Kd.V_drew)); exact (Kd.V_mono (Kd.V_far (p := ⟨gb132, 3, none⟩) (Kd.V_far (p := ⟨gb132, 2, none⟩) (Kd.V_far (p := ⟨gb132, 1, none⟩) (Kd.V_far (p := ⟨gb132, 0, none⟩) (Kd.V_mono HO131.out (fun k_ hk => (⟨hk, hk.2.2⟩ : _ ∧ k_ ≠ gb132))) (fun _ hk => hk.2) (.int .i64 t119)) (fun _ hk => hk.2) (.int .i64 t125)) (fun _ hk => hk.2) (.bool ((rd l1 6) == 1))) (fun _ hk => hk.2) (.slice A32 y127.length c32)) (fun _ h_ => h_.1)))); (case side2 => exact (Kd.V_reads' HO131.out).2.1); rintro e w41 ⟨rfl, hb⟩; have n0_ := Aside0.mk (Kd.V_below (by (with_reducible repeat (first | apply Kd.V_alloc | apply Kd.V_drewN | apply Kd.V_drew)); exact (Kd.V_mono (Kd.V_far (p := ⟨gb132, 3, none⟩) (Kd.V_far (p := ⟨gb132, 2, none⟩) (Kd.V_far (p := ⟨gb132, 1, none⟩) (Kd.V_far (p := ⟨gb132, 0, none⟩) (Kd.V_mono HO1.out (fun k_ hk => (⟨hk, hk.2.2⟩ : _ ∧ k_ ≠ gb132))) (fun _ hk => hk.2) (.int .i64 t119)) (fun _ hk => hk.2) (.int .i64 t125)) (fun _ hk => hk.2) (.bool ((rd l1 6) == 1))) (fun _ hk => hk.2) (.slice A32 y127.length c32)) (fun _ h_ => h_.1))) hb); have n1_ := Aside0.mk (Kd.V_below (by (with_reducible repeat (first | apply Kd.V_alloc | apply Kd.V_drewN | apply Kd.V_drew)); exact (Kd.V_mono (Kd.V_far (p := ⟨gb132, 3, none⟩) (Kd.V_far (p := ⟨gb132, 2, none⟩) (Kd.V_far (p := ⟨gb132, 1, none⟩) (Kd.V_far (p := ⟨gb132, 0, none⟩) (Kd.V_mono HO106.out (fun k_ hk => (⟨hk, hk.2.2⟩ : _ ∧ k_ ≠ gb132))) (fun _ hk => hk.2) (.int .i64 t119)) (fun _ hk => hk.2) (.int .i64 t125)) (fun _ hk => hk.2) (.bool ((rd l1 6) == 1))) (fun _ hk => hk.2) (.slice A32 y127.length c32)) (fun _ h_ => h_.1))) hb); have n2_ := Aside0.mk (Kd.V_below (by (with_reducible repeat (first | apply Kd.V_alloc | apply Kd.V_drewN | apply Kd.V_drew)); exact (Kd.V_mono (Kd.V_far (p := ⟨gb132, 3, none⟩) (Kd.V_far (p := ⟨gb132, 2, none⟩) (Kd.V_far (p := ⟨gb132, 1, none⟩) (Kd.V_far (p := ⟨gb132, 0, none⟩) (Kd.V_mono HO112.out (fun k_ hk => (⟨hk, hk.2.2⟩ : _ ∧ k_ ≠ gb132))) (fun _ hk => hk.2) (.int .i64 t119)) (fun _ hk => hk.2) (.int .i64 t125)) (fun _ hk => hk.2) (.bool ((rd l1 6) == 1))) (fun _ hk => hk.2) (.slice A32 y127.length c32)) (fun _ h_ => h_.1))) hb); have n3_ := Aside0.mk (Kd.V_below (by (with_reducible repeat (first | apply Kd.V_alloc | apply Kd.V_drewN | apply Kd.V_drew)); exact (Kd.V_mono (Kd.V_far (p := ⟨gb132, 3, none⟩) (Kd.V_far (p := ⟨gb132, 2, none⟩) (Kd.V_far (p := ⟨gb132, 1, none⟩) (Kd.V_far (p := ⟨gb132, 0, none⟩) (Kd.V_mono HO118.out (fun k_ hk => (⟨hk, hk.2.2⟩ : _ ∧ k_ ≠ gb132))) (fun _ hk => hk.2) (.int .i64 t119)) (fun _ hk => hk.2) (.int .i64 t125)) (fun _ hk => hk.2) (.bool ((rd l1 6) == 1))) (fun _ hk => hk.2) (.slice A32 y127.length c32)) (fun _ h_ => h_.1))) hb); have n4_ := Aside0.mk (Kd.V_below (by (with_reducible repeat (first | apply Kd.V_alloc | apply Kd.V_drewN | apply Kd.V_drew)); exact (Kd.V_mono (Kd.V_far (p := ⟨gb132, 3, none⟩) (Kd.V_far (p := ⟨gb132, 2, none⟩) (Kd.V_far (p := ⟨gb132, 1, none⟩) (Kd.V_far (p := ⟨gb132, 0, none⟩) (Kd.V_mono HO124.out (fun k_ hk => (⟨hk, hk.2.2⟩ : _ ∧ k_ ≠ gb132))) (fun _ hk => hk.2) (.int .i64 t119)) (fun _ hk => hk.2) (.int .i64 t125)) (fun _ hk => hk.2) (.bool ((rd l1 6) == 1))) (fun _ hk => hk.2) (.slice A32 y127.length c32)) (fun _ h_ => h_.1))) hb); have n5_ := Aside0.mk (Kd.V_below (by (with_reducible repeat (first | apply Kd.V_alloc | apply Kd.V_drewN | apply Kd.V_drew)); exact (Kd.V_mono (Kd.V_far (p := ⟨gb132, 3, none⟩) (Kd.V_far (p := ⟨gb132, 2, none⟩) (Kd.V_far (p := ⟨gb132, 1, none⟩) (Kd.V_far (p := ⟨gb132, 0, none⟩) (Kd.V_mono HO131.out (fun k_ hk => (⟨hk, hk.2.2⟩ : _ ∧ k_ ≠ gb132))) (fun _ hk => hk.2) (.int .i64 t119)) (fun _ hk => hk.2) (.int .i64 t125)) (fun _ hk => hk.2) (.bool ((rd l1 6) == 1))) (fun _ hk => hk.2) (.slice A32 y127.length c32)) (fun _ h_ => h_.1))) hb); have n6_ := Aside0.mk (blk_below (g := gb101) (o := .cells #[.int .i64 0, .int .i64 0, .bool false, .slice none 0 0] 63 (0, 0)) (by (with_reducible repeat (first | refine blk_drewN ?_ _ | refine blk_drew ?_ | refine blk_alloc ?_ _)); refine blk_far ?_ NB101_132.out _; (with_reducible repeat (first | refine blk_drewN ?_ _ | refine blk_drew ?_ | refine blk_alloc ?_ _)); refine blk_far ?_ NB101_132.out _; (with_reducible repeat (first | refine blk_drewN ?_ _ | refine blk_drew ?_ | refine blk_alloc ?_ _)); refine blk_far ?_ NB101_132.out _; (with_reducible repeat (first | refine blk_drewN ?_ _ | refine blk_drew ?_ | refine blk_alloc ?_ _)); refine blk_far ?_ NB101_132.out _; (with_reducible repeat (first | refine blk_drewN ?_ _ | refine blk_drew ?_ | refine blk_alloc ?_ _)); exact BK101.out) hb); have n7_ := Aside0.mk (blk_below (g := gb132) (o := .cells #[.int .i64 t119, .int .i64 t125, .bool ((rd l1 6) == 1), .slice A32 y127.length c32] 63 (0, 0)) (by (with_reducible repeat (first | refine blk_drewN ?_ _ | refine blk_drew ?_ | refine blk_alloc ?_ _)); refine blk_put (cs := #[.int .i64 t119, .int .i64 t125, .bool ((rd l1 6) == 1), .slice none 0 0]) ?_ 3 _ rfl; (with_reducible repeat (first | refine blk_drewN ?_ _ | refine blk_drew ?_ | refine blk_alloc ?_ _)); refine blk_put (cs := #[.int .i64 t119, .int .i64 t125, .bool false, .slice none 0 0]) ?_ 2 _ rfl; (with_reducible repeat (first | refine blk_drewN ?_ _ | refine blk_drew ?_ | refine blk_alloc ?_ _)); refine blk_put (cs := #[.int .i64 t119, .int .i64 0, .bool false, .slice none 0 0]) ?_ 1 _ rfl; (with_reducible repeat (first | refine blk_drewN ?_ _ | refine blk_drew ?_ | refine blk_alloc ?_ _)); refine blk_put (cs := #[.int .i64 0, .int .i64 0, .bool false, .slice none 0 0]) ?_ 0 _ rfl; (with_reducible repeat (first | refine blk_drewN ?_ _ | refine blk_drew ?_ | refine blk_alloc ?_ _)); exact BK132.out) hb); have n8_ := Aside0.mk (below_step (by repeat (first | (with_reducible first | exact HB.out | apply below_alloc | apply pw_below_drewN | apply below_drew1 | refine below_set ?_ GE101.out | refine below_set ?_ GE132.out) | exact HB.out)) hb); clear HO1; clear HO106; clear HO112; clear HO118; clear HO124; clear HO131; clear BK101; clear BK132; clear HB; have HO1 := n0_; have HO106 := n1_; have HO112 := n2_; have HO118 := n3_; have HO124 := n4_; have HO131 := n5_; have BK101 := n6_; have BK132 := n7_; have HB := n8_; clear n0_ n1_ n2_ n3_ n4_ n5_ n6_ n7_ n8_; (try clear hb); (try clear hb2); (try clear hk); (try clear hi); have hcz42_0 : w41.cell? ⟨gb132, 0, none⟩ = some (.int .i64 t119) := (blk_cell BK132.out 0).trans rfl; have hcz42_1 : w41.cell? ⟨gb132, 1, none⟩ = some (.int .i64 t125) := (blk_cell BK132.out 1).trans rfl; have hcz42_2 : w41.cell? ⟨gb132, 2, none⟩ = some (.bool ((rd l1 6) == 1)) := (blk_cell BK132.out 2).trans rfl; have hcz42_3 : w41.cell? ⟨gb132, 3, none⟩ = some (.slice A32 y127.length c32) := (blk_cell BK132.out 3).trans rfl; have hfz42_0 := blk_frozen BK132.out 0; have hfz42_1 := blk_frozen BK132.out 1; have hfz42_2 := blk_frozen BK132.out 2; have hfz42_3 := blk_frozen BK132.out 3; have hcz43_0 : w41.cell? ⟨gb101, 0, none⟩ = some (.int .i64 0) := (blk_cell BK101.out 0).trans rfl; have hcz43_1 : w41.cell? ⟨gb101, 1, none⟩ = some (.int .i64 0) := (blk_cell BK101.out 1).trans rfl; have hcz43_2 : w41.cell? ⟨gb101, 2, none⟩ = some (.bool false) := (by first | exact (blk_cell BK101.out 2).trans rfl | (refine (blk_cell BK101.out 2).trans ?_; show some (Value.bool _) = some (Value.bool _); congr 2; first | (with_reducible assumption) | exact Eq.symm (Aside0.out (by with_reducible assumption)))); have hcz43_3 : w41.cell? ⟨gb101, 3, none⟩ = some (.slice none 0 0) := (blk_cell BK101.out 3).trans rfl; have hfz43_0 := blk_frozen BK101.out 0; have hfz43_1 := blk_frozen BK101.out 1; have hfz43_2 := blk_frozen BK101.out 2; have hfz43_3 := blk_frozen BK101.out 3))
                        refine bodyPost_ret (results_ct rfl _ _ gb101 63 #[.int .i64 t119, .int .i64 t125, .bool ((rd l1 6) == 1), .slice A32 y127.length c32] (0, 0) _ rfl (by (with_reducible repeat (first | refine blk_drewN ?_ _ | refine blk_drew ?_ | refine blk_alloc ?_ _)); refine blk_put (cs := #[.int .i64 t119, .int .i64 t125, .bool ((rd l1 6) == 1), .slice none 0 0]) ?_ 3 _ rfl; (with_reducible repeat (first | refine blk_drewN ?_ _ | refine blk_drew ?_ | refine blk_alloc ?_ _)); refine blk_put (cs := #[.int .i64 t119, .int .i64 t125, .bool false, .slice none 0 0]) ?_ 2 _ rfl; (with_reducible repeat (first | refine blk_drewN ?_ _ | refine blk_drew ?_ | refine blk_alloc ?_ _)); refine blk_put (cs := #[.int .i64 t119, .int .i64 0, .bool false, .slice none 0 0]) ?_ 1 _ rfl; (with_reducible repeat (first | refine blk_drewN ?_ _ | refine blk_drew ?_ | refine blk_alloc ?_ _)); refine blk_put (cs := #[.int .i64 0, .int .i64 0, .bool false, .slice none 0 0]) ?_ 0 _ rfl; (with_reducible repeat (first | refine blk_drewN ?_ _ | refine blk_drew ?_ | refine blk_alloc ?_ _)); exact BK101.out) Try.underlying63 rfl (by kernel_rfl)) rfl ?_
                        have H := HMe_.out
                        obtain ⟨rfl, rfl, rfl, rfl, rfl⟩ := H
                        exact ⟨_, by first | rfl | (simp [errW_none, errW_some] <;> rfl) | (simp only [← hji6]; first | rfl | (simp [errW_none, errW_some] <;> rfl)) | (simp [*, errW_none, errW_some] <;> rfl), by (with_reducible repeat (first | apply Kd.V_alloc | apply Kd.V_drewN | apply Kd.V_drew)); exact Kd.V_mono (Kd.V_far (p := ⟨gb101, 3, none⟩) (Kd.V_far (p := ⟨gb101, 2, none⟩) (Kd.V_far (p := ⟨gb101, 1, none⟩) (Kd.V_far (p := ⟨gb101, 0, none⟩) (Kd.V_mono HO131.out (fun k_ hk => (⟨hk, hk.2.1⟩ : _ ∧ k_ ≠ gb101))) (fun _ hk => hk.2) (.int .i64 t119)) (fun _ hk => hk.2) (.int .i64 t125)) (fun _ hk => hk.2) (.bool ((rd l1 6) == 1))) (fun _ hk => hk.2) (.slice A32 y127.length c32)) (fun _ hk => hk.1.1), by repeat (first | (with_reducible first | exact HB.out | apply below_alloc | apply pw_below_drewN | apply below_drew1 | refine below_set ?_ GE101.out | refine below_set ?_ GE132.out) | exact HB.out)⟩
                      · replace c24 := Bool.eq_false_iff.mpr c24
                        subst c24
                        have H1 : (some (0, 0, false, ([] : List Int), 2)) = some (r1, r2, r3, r4, r5) := by rw [if_neg (show ¬ (false = true) by decide)] at H; exact H
                        clear H
                        have H := H1
                        clear H1
                        simp only [Option.some.injEq, Prod.mk.injEq] at H
                        have HMe_ := Aside0.mk H
                        clear H
                        try go_wp2_with (first | (go_at_call 43; (with_reducible refine (psalteryref19_Right.calls t119 t125 ((rd l1 6) == 1) _ _ y127 false _ ?side1 ?side2 A23.out).mono ?_); (case side1 => refine (Kd.V_reads' (e := 5) (base := w.heap.size) (ok := fun k_ => ((P1_ k_ ∨ w.heap.size ≤ k_) ∧ (k_ ≠ gb101 ∧ k_ ≠ gb132))) (n := y127.length) (c := c32) ?_).2.2; exact (by (with_reducible repeat (first | apply Kd.V_alloc | apply Kd.V_drewN | apply Kd.V_drew)); exact (Kd.V_mono (Kd.V_far (p := ⟨gb132, 3, none⟩) (Kd.V_far (p := ⟨gb132, 2, none⟩) (Kd.V_far (p := ⟨gb132, 1, none⟩) (Kd.V_far (p := ⟨gb132, 0, none⟩) (Kd.V_mono HO131.out (fun k_ hk => (⟨hk, hk.2.2⟩ : _ ∧ k_ ≠ gb132))) (fun _ hk => hk.2) (.int .i64 t119)) (fun _ hk => hk.2) (.int .i64 t125)) (fun _ hk => hk.2) (.bool ((rd l1 6) == 1))) (fun _ hk => hk.2) (.slice A32 y127.length c32)) (fun _ h_ => h_.1)))); (case side2 => exact (Kd.V_reads' HO131.out).2.1); rintro e w60 ⟨rfl, hb⟩; have n0_ := Aside0.mk (Kd.V_below (by (with_reducible repeat (first | apply Kd.V_alloc | apply Kd.V_drewN | apply Kd.V_drew)); exact (Kd.V_mono (Kd.V_far (p := ⟨gb132, 3, none⟩) (Kd.V_far (p := ⟨gb132, 2, none⟩) (Kd.V_far (p := ⟨gb132, 1, none⟩) (Kd.V_far (p := ⟨gb132, 0, none⟩) (Kd.V_mono HO1.out (fun k_ hk => (⟨hk, hk.2.2⟩ : _ ∧ k_ ≠ gb132))) (fun _ hk => hk.2) (.int .i64 t119)) (fun _ hk => hk.2) (.int .i64 t125)) (fun _ hk => hk.2) (.bool ((rd l1 6) == 1))) (fun _ hk => hk.2) (.slice A32 y127.length c32)) (fun _ h_ => h_.1))) hb); have n1_ := Aside0.mk (Kd.V_below (by (with_reducible repeat (first | apply Kd.V_alloc | apply Kd.V_drewN | apply Kd.V_drew)); exact (Kd.V_mono (Kd.V_far (p := ⟨gb132, 3, none⟩) (Kd.V_far (p := ⟨gb132, 2, none⟩) (Kd.V_far (p := ⟨gb132, 1, none⟩) (Kd.V_far (p := ⟨gb132, 0, none⟩) (Kd.V_mono HO106.out (fun k_ hk => (⟨hk, hk.2.2⟩ : _ ∧ k_ ≠ gb132))) (fun _ hk => hk.2) (.int .i64 t119)) (fun _ hk => hk.2) (.int .i64 t125)) (fun _ hk => hk.2) (.bool ((rd l1 6) == 1))) (fun _ hk => hk.2) (.slice A32 y127.length c32)) (fun _ h_ => h_.1))) hb); have n2_ := Aside0.mk (Kd.V_below (by (with_reducible repeat (first | apply Kd.V_alloc | apply Kd.V_drewN | apply Kd.V_drew)); exact (Kd.V_mono (Kd.V_far (p := ⟨gb132, 3, none⟩) (Kd.V_far (p := ⟨gb132, 2, none⟩) (Kd.V_far (p := ⟨gb132, 1, none⟩) (Kd.V_far (p := ⟨gb132, 0, none⟩) (Kd.V_mono HO112.out (fun k_ hk => (⟨hk, hk.2.2⟩ : _ ∧ k_ ≠ gb132))) (fun _ hk => hk.2) (.int .i64 t119)) (fun _ hk => hk.2) (.int .i64 t125)) (fun _ hk => hk.2) (.bool ((rd l1 6) == 1))) (fun _ hk => hk.2) (.slice A32 y127.length c32)) (fun _ h_ => h_.1))) hb); have n3_ := Aside0.mk (Kd.V_below (by (with_reducible repeat (first | apply Kd.V_alloc | apply Kd.V_drewN | apply Kd.V_drew)); exact (Kd.V_mono (Kd.V_far (p := ⟨gb132, 3, none⟩) (Kd.V_far (p := ⟨gb132, 2, none⟩) (Kd.V_far (p := ⟨gb132, 1, none⟩) (Kd.V_far (p := ⟨gb132, 0, none⟩) (Kd.V_mono HO118.out (fun k_ hk => (⟨hk, hk.2.2⟩ : _ ∧ k_ ≠ gb132))) (fun _ hk => hk.2) (.int .i64 t119)) (fun _ hk => hk.2) (.int .i64 t125)) (fun _ hk => hk.2) (.bool ((rd l1 6) == 1))) (fun _ hk => hk.2) (.slice A32 y127.length c32)) (fun _ h_ => h_.1))) hb); have n4_ := Aside0.mk (Kd.V_below (by (with_reducible repeat (first | apply Kd.V_alloc | apply Kd.V_drewN | apply Kd.V_drew)); exact (Kd.V_mono (Kd.V_far (p := ⟨gb132, 3, none⟩) (Kd.V_far (p := ⟨gb132, 2, none⟩) (Kd.V_far (p := ⟨gb132, 1, none⟩) (Kd.V_far (p := ⟨gb132, 0, none⟩) (Kd.V_mono HO124.out (fun k_ hk => (⟨hk, hk.2.2⟩ : _ ∧ k_ ≠ gb132))) (fun _ hk => hk.2) (.int .i64 t119)) (fun _ hk => hk.2) (.int .i64 t125)) (fun _ hk => hk.2) (.bool ((rd l1 6) == 1))) (fun _ hk => hk.2) (.slice A32 y127.length c32)) (fun _ h_ => h_.1))) hb); have n5_ := Aside0.mk (Kd.V_below (by (with_reducible repeat (first | apply Kd.V_alloc | apply Kd.V_drewN | apply Kd.V_drew)); exact (Kd.V_mono (Kd.V_far (p := ⟨gb132, 3, none⟩) (Kd.V_far (p := ⟨gb132, 2, none⟩) (Kd.V_far (p := ⟨gb132, 1, none⟩) (Kd.V_far (p := ⟨gb132, 0, none⟩) (Kd.V_mono HO131.out (fun k_ hk => (⟨hk, hk.2.2⟩ : _ ∧ k_ ≠ gb132))) (fun _ hk => hk.2) (.int .i64 t119)) (fun _ hk => hk.2) (.int .i64 t125)) (fun _ hk => hk.2) (.bool ((rd l1 6) == 1))) (fun _ hk => hk.2) (.slice A32 y127.length c32)) (fun _ h_ => h_.1))) hb); have n6_ := Aside0.mk (blk_below (g := gb101) (o := .cells #[.int .i64 0, .int .i64 0, .bool false, .slice none 0 0] 63 (0, 0)) (by (with_reducible repeat (first | refine blk_drewN ?_ _ | refine blk_drew ?_ | refine blk_alloc ?_ _)); refine blk_far ?_ NB101_132.out _; (with_reducible repeat (first | refine blk_drewN ?_ _ | refine blk_drew ?_ | refine blk_alloc ?_ _)); refine blk_far ?_ NB101_132.out _; (with_reducible repeat (first | refine blk_drewN ?_ _ | refine blk_drew ?_ | refine blk_alloc ?_ _)); refine blk_far ?_ NB101_132.out _; (with_reducible repeat (first | refine blk_drewN ?_ _ | refine blk_drew ?_ | refine blk_alloc ?_ _)); refine blk_far ?_ NB101_132.out _; (with_reducible repeat (first | refine blk_drewN ?_ _ | refine blk_drew ?_ | refine blk_alloc ?_ _)); exact BK101.out) hb); have n7_ := Aside0.mk (blk_below (g := gb132) (o := .cells #[.int .i64 t119, .int .i64 t125, .bool ((rd l1 6) == 1), .slice A32 y127.length c32] 63 (0, 0)) (by (with_reducible repeat (first | refine blk_drewN ?_ _ | refine blk_drew ?_ | refine blk_alloc ?_ _)); refine blk_put (cs := #[.int .i64 t119, .int .i64 t125, .bool ((rd l1 6) == 1), .slice none 0 0]) ?_ 3 _ rfl; (with_reducible repeat (first | refine blk_drewN ?_ _ | refine blk_drew ?_ | refine blk_alloc ?_ _)); refine blk_put (cs := #[.int .i64 t119, .int .i64 t125, .bool false, .slice none 0 0]) ?_ 2 _ rfl; (with_reducible repeat (first | refine blk_drewN ?_ _ | refine blk_drew ?_ | refine blk_alloc ?_ _)); refine blk_put (cs := #[.int .i64 t119, .int .i64 0, .bool false, .slice none 0 0]) ?_ 1 _ rfl; (with_reducible repeat (first | refine blk_drewN ?_ _ | refine blk_drew ?_ | refine blk_alloc ?_ _)); refine blk_put (cs := #[.int .i64 0, .int .i64 0, .bool false, .slice none 0 0]) ?_ 0 _ rfl; (with_reducible repeat (first | refine blk_drewN ?_ _ | refine blk_drew ?_ | refine blk_alloc ?_ _)); exact BK132.out) hb); have n8_ := Aside0.mk (below_step (by repeat (first | (with_reducible first | exact HB.out | apply below_alloc | apply pw_below_drewN | apply below_drew1 | refine below_set ?_ GE101.out | refine below_set ?_ GE132.out) | exact HB.out)) hb); clear HO1; clear HO106; clear HO112; clear HO118; clear HO124; clear HO131; clear BK101; clear BK132; clear HB; have HO1 := n0_; have HO106 := n1_; have HO112 := n2_; have HO118 := n3_; have HO124 := n4_; have HO131 := n5_; have BK101 := n6_; have BK132 := n7_; have HB := n8_; clear n0_ n1_ n2_ n3_ n4_ n5_ n6_ n7_ n8_; (try clear hb); (try clear hb2); (try clear hk); (try clear hi); have hcz61_0 : w60.cell? ⟨gb101, 0, none⟩ = some (.int .i64 0) := (blk_cell BK101.out 0).trans rfl; have hcz61_1 : w60.cell? ⟨gb101, 1, none⟩ = some (.int .i64 0) := (blk_cell BK101.out 1).trans rfl; have hcz61_2 : w60.cell? ⟨gb101, 2, none⟩ = some (.bool false) := (by first | exact (blk_cell BK101.out 2).trans rfl | (refine (blk_cell BK101.out 2).trans ?_; show some (Value.bool _) = some (Value.bool _); congr 2; first | (with_reducible assumption) | exact Eq.symm (Aside0.out (by with_reducible assumption)))); have hcz61_3 : w60.cell? ⟨gb101, 3, none⟩ = some (.slice none 0 0) := (blk_cell BK101.out 3).trans rfl; have hfz61_0 := blk_frozen BK101.out 0; have hfz61_1 := blk_frozen BK101.out 1; have hfz61_2 := blk_frozen BK101.out 2; have hfz61_3 := blk_frozen BK101.out 3))
                        refine bodyPost_ret (results_ct rfl _ _ gb101 63 #[.int .i64 0, .int .i64 0, .bool false, .slice none 0 0] (0, 0) _ rfl (by (with_reducible repeat (first | refine blk_drewN ?_ _ | refine blk_drew ?_ | refine blk_alloc ?_ _)); refine blk_put (cs := #[.int .i64 0, .int .i64 0, .bool false, .slice none 0 0]) ?_ 3 _ rfl; (with_reducible repeat (first | refine blk_drewN ?_ _ | refine blk_drew ?_ | refine blk_alloc ?_ _)); refine blk_put (cs := #[.int .i64 0, .int .i64 0, .bool false, .slice none 0 0]) ?_ 2 _ rfl; (with_reducible repeat (first | refine blk_drewN ?_ _ | refine blk_drew ?_ | refine blk_alloc ?_ _)); refine blk_put (cs := #[.int .i64 0, .int .i64 0, .bool false, .slice none 0 0]) ?_ 1 _ rfl; (with_reducible repeat (first | refine blk_drewN ?_ _ | refine blk_drew ?_ | refine blk_alloc ?_ _)); refine blk_put (cs := #[.int .i64 0, .int .i64 0, .bool false, .slice none 0 0]) ?_ 0 _ rfl; (with_reducible repeat (first | refine blk_drewN ?_ _ | refine blk_drew ?_ | refine blk_alloc ?_ _)); exact BK101.out) Try.underlying63 rfl (by kernel_rfl)) rfl ?_
                        have H := HMe_.out
                        obtain ⟨rfl, rfl, rfl, rfl, rfl⟩ := H
                        exact ⟨_, by first | rfl | (simp [errW_none, errW_some] <;> rfl) | (simp only [← hji6]; first | rfl | (simp [errW_none, errW_some] <;> rfl)) | (simp [*, errW_none, errW_some] <;> rfl), Kd.V_nil _ _ _ _ _, by repeat (first | (with_reducible first | exact HB.out | apply below_alloc | apply pw_below_drewN | apply below_drew1 | refine below_set ?_ GE101.out | refine below_set ?_ GE132.out) | exact HB.out)⟩
                    · rw [if_neg c22] at H
                      have c22b0 : ((rd l1 6) == 0) = false := beq_eq_false_iff_ne.mpr c22
                      have c22b1 : ((rd l1 6) != 0) = true := bne_iff_ne.mpr c22
                      have HMg_ := Aside0.mk H
                      clear H
                      have p135 : 0 ≤ (6 : Int) := (by omega)
                      have q135 : 6 < (l1.length : Int) := of_decide_eq_true (by first | (with_reducible assumption) | assumption)
                      obtain ⟨ad135, e135, hx135_0⟩ := Kd.at_int (Kd.V_reads' HO1.out).2.2 6 p135 q135
                      obtain rfl : ad126 = ad135 := (by injection e135)
                      (try simp only [show (6 : Int).toNat = 6 from rfl, Nat.reduceMul, Nat.reduceEqDiff, Go.Addr.add, ↓reduceIte] at hx135_0)
                      have qi135 : (6 < l1.length) = True := eq_true (by omega)
                      (try rw [show ((6 : Int)).toNat = 6 from rfl] at hx135_0)
                      have hn135_0 : ad126.block ≠ gb132 := Kd.own_blk (V_away8 HO1.out (Nat.lt_of_le_of_lt (Nat.zero_le 6) (of_decide_eq_true (p := 6 < l1.length) (by assumption))) (fun _ hk => by first | exact hk.2 | exact hk.2.2 | exact hk.1.2))
                      have hn135_1 : ad126.block ≠ gb132 := Kd.own_blk (V_away8 HO1.out (Nat.lt_of_le_of_lt (Nat.zero_le 6) (of_decide_eq_true (p := 6 < l1.length) (by assumption))) (fun _ hk => by first | exact hk.2 | exact hk.2.2 | exact hk.1.2))
                      have hn135_2 : ad126.block ≠ gb132 := Kd.own_blk (V_away8 HO1.out (Nat.lt_of_le_of_lt (Nat.zero_le 6) (of_decide_eq_true (p := 6 < l1.length) (by assumption))) (fun _ hk => by first | exact hk.2 | exact hk.2.2 | exact hk.1.2))
                      have hn135_3 : ad126.block ≠ gb132 := Kd.own_blk (V_away8 HO1.out (Nat.lt_of_le_of_lt (Nat.zero_le 6) (of_decide_eq_true (p := 6 < l1.length) (by assumption))) (fun _ hk => by first | exact hk.2 | exact hk.2.2 | exact hk.1.2))
                      replace hx135_0 := (cell_far (p := ⟨gb132, 0, none⟩) (by first | (rw [add_block]; exact hn135_0) | (show (Addr.add _ _).block ≠ _; rw [add_block]; exact hn135_0) | exact hn135_0) (.int .i64 t119)).trans hx135_0
                      replace hx135_0 := (cell_far (p := ⟨gb132, 1, none⟩) (by first | (rw [add_block]; exact hn135_1) | (show (Addr.add _ _).block ≠ _; rw [add_block]; exact hn135_1) | exact hn135_1) (.int .i64 t125)).trans hx135_0
                      replace hx135_0 := (cell_far (p := ⟨gb132, 2, none⟩) (by first | (rw [add_block]; exact hn135_2) | (show (Addr.add _ _).block ≠ _; rw [add_block]; exact hn135_2) | exact hn135_2) (.bool ((rd l1 6) == 1))).trans hx135_0
                      replace hx135_0 := (cell_far (p := ⟨gb132, 3, none⟩) (by first | (rw [add_block]; exact hn135_3) | (show (Addr.add _ _).block ≠ _; rw [add_block]; exact hn135_3) | exact hn135_3) (.slice A32 y127.length c32)).trans hx135_0
                      clear hn135_0
                      clear hn135_1
                      clear hn135_2
                      clear hn135_3
                      replace p135 := eq_true p135
                      replace q135 := eq_true q135
                      have H := HMg_.out
                      clear HMg_
                      by_cases c62 : (rd l1 6) = 1
                      · rw [if_pos c62] at H
                        have c62b0 : ((rd l1 6) == 1) = true := beq_iff_eq.mpr c62
                        have c62b1 : ((rd l1 6) != 1) = false := bne_eq_false_iff_eq.mpr c62
                        clear c62 c62b0
                        replace H := Option.bind_eq_some_iff.mp H
                        obtain ⟨t136, A630, H⟩ := H
                        replace H : (if t136 = true then (some (t119, t125, ((rd l1 6) == 1), y127, 0)) else (some (0, 0, false, ([] : List Int), 2))) = some (r1, r2, r3, r4, r5) := H
                        have A63 := Aside0.mk A630
                        clear A630
                        have HMg_ := Aside0.mk H
                        clear H
                        have hnb79 := NB132_101.out
                        have hnc79 := NB101_132.out
                        have hcz80_0 : w34.cell? ⟨gb132, 0, none⟩ = some (.int .i64 0) := (blk_cell BK132.out 0).trans rfl
                        have hcz80_1 : w34.cell? ⟨gb132, 1, none⟩ = some (.int .i64 0) := (blk_cell BK132.out 1).trans rfl
                        have hcz80_2 : w34.cell? ⟨gb132, 2, none⟩ = some (.bool false) := (by first | exact (blk_cell BK132.out 2).trans rfl | (refine (blk_cell BK132.out 2).trans ?_; show some (Value.bool _) = some (Value.bool _); congr 2; first | (with_reducible assumption) | exact Eq.symm (Aside0.out (by with_reducible assumption))))
                        have hcz80_3 : w34.cell? ⟨gb132, 3, none⟩ = some (.slice none 0 0) := (blk_cell BK132.out 3).trans rfl
                        have hfz80_0 := blk_frozen BK132.out 0
                        have hfz80_1 := blk_frozen BK132.out 1
                        have hfz80_2 := blk_frozen BK132.out 2
                        have hfz80_3 := blk_frozen BK132.out 3
                        have H := HMg_.out
                        clear HMg_
                        by_cases c64 : t136 = true
                        · subst c64
                          have H1 : (some (t119, t125, ((rd l1 6) == 1), y127, 0)) = some (r1, r2, r3, r4, r5) := by rw [if_pos rfl] at H; exact H
                          clear H
                          have H := H1
                          clear H1
                          simp only [Option.some.injEq, Prod.mk.injEq] at H
                          have HMe_ := Aside0.mk H
                          clear H
                          try go_wp2_with (first | (go_at_call 43; (with_reducible refine (psalteryref19_Right.calls t119 t125 ((rd l1 6) == 1) _ _ y127 true _ ?side1 ?side2 A63.out).mono ?_); (case side1 => refine (Kd.V_reads' (e := 5) (base := w.heap.size) (ok := fun k_ => ((P1_ k_ ∨ w.heap.size ≤ k_) ∧ (k_ ≠ gb101 ∧ k_ ≠ gb132))) (n := y127.length) (c := c32) ?_).2.2; exact (by (with_reducible repeat (first | apply Kd.V_alloc | apply Kd.V_drewN | apply Kd.V_drew)); exact (Kd.V_mono (Kd.V_far (p := ⟨gb132, 3, none⟩) (Kd.V_far (p := ⟨gb132, 2, none⟩) (Kd.V_far (p := ⟨gb132, 1, none⟩) (Kd.V_far (p := ⟨gb132, 0, none⟩) (Kd.V_mono HO131.out (fun k_ hk => (⟨hk, hk.2.2⟩ : _ ∧ k_ ≠ gb132))) (fun _ hk => hk.2) (.int .i64 t119)) (fun _ hk => hk.2) (.int .i64 t125)) (fun _ hk => hk.2) (.bool ((rd l1 6) == 1))) (fun _ hk => hk.2) (.slice A32 y127.length c32)) (fun _ h_ => h_.1)))); (case side2 => exact (Kd.V_reads' HO131.out).2.1); rintro e w81 ⟨rfl, hb⟩; have n0_ := Aside0.mk (Kd.V_below (by (with_reducible repeat (first | apply Kd.V_alloc | apply Kd.V_drewN | apply Kd.V_drew)); exact (Kd.V_mono (Kd.V_far (p := ⟨gb132, 3, none⟩) (Kd.V_far (p := ⟨gb132, 2, none⟩) (Kd.V_far (p := ⟨gb132, 1, none⟩) (Kd.V_far (p := ⟨gb132, 0, none⟩) (Kd.V_mono HO1.out (fun k_ hk => (⟨hk, hk.2.2⟩ : _ ∧ k_ ≠ gb132))) (fun _ hk => hk.2) (.int .i64 t119)) (fun _ hk => hk.2) (.int .i64 t125)) (fun _ hk => hk.2) (.bool ((rd l1 6) == 1))) (fun _ hk => hk.2) (.slice A32 y127.length c32)) (fun _ h_ => h_.1))) hb); have n1_ := Aside0.mk (Kd.V_below (by (with_reducible repeat (first | apply Kd.V_alloc | apply Kd.V_drewN | apply Kd.V_drew)); exact (Kd.V_mono (Kd.V_far (p := ⟨gb132, 3, none⟩) (Kd.V_far (p := ⟨gb132, 2, none⟩) (Kd.V_far (p := ⟨gb132, 1, none⟩) (Kd.V_far (p := ⟨gb132, 0, none⟩) (Kd.V_mono HO106.out (fun k_ hk => (⟨hk, hk.2.2⟩ : _ ∧ k_ ≠ gb132))) (fun _ hk => hk.2) (.int .i64 t119)) (fun _ hk => hk.2) (.int .i64 t125)) (fun _ hk => hk.2) (.bool ((rd l1 6) == 1))) (fun _ hk => hk.2) (.slice A32 y127.length c32)) (fun _ h_ => h_.1))) hb); have n2_ := Aside0.mk (Kd.V_below (by (with_reducible repeat (first | apply Kd.V_alloc | apply Kd.V_drewN | apply Kd.V_drew)); exact (Kd.V_mono (Kd.V_far (p := ⟨gb132, 3, none⟩) (Kd.V_far (p := ⟨gb132, 2, none⟩) (Kd.V_far (p := ⟨gb132, 1, none⟩) (Kd.V_far (p := ⟨gb132, 0, none⟩) (Kd.V_mono HO112.out (fun k_ hk => (⟨hk, hk.2.2⟩ : _ ∧ k_ ≠ gb132))) (fun _ hk => hk.2) (.int .i64 t119)) (fun _ hk => hk.2) (.int .i64 t125)) (fun _ hk => hk.2) (.bool ((rd l1 6) == 1))) (fun _ hk => hk.2) (.slice A32 y127.length c32)) (fun _ h_ => h_.1))) hb); have n3_ := Aside0.mk (Kd.V_below (by (with_reducible repeat (first | apply Kd.V_alloc | apply Kd.V_drewN | apply Kd.V_drew)); exact (Kd.V_mono (Kd.V_far (p := ⟨gb132, 3, none⟩) (Kd.V_far (p := ⟨gb132, 2, none⟩) (Kd.V_far (p := ⟨gb132, 1, none⟩) (Kd.V_far (p := ⟨gb132, 0, none⟩) (Kd.V_mono HO118.out (fun k_ hk => (⟨hk, hk.2.2⟩ : _ ∧ k_ ≠ gb132))) (fun _ hk => hk.2) (.int .i64 t119)) (fun _ hk => hk.2) (.int .i64 t125)) (fun _ hk => hk.2) (.bool ((rd l1 6) == 1))) (fun _ hk => hk.2) (.slice A32 y127.length c32)) (fun _ h_ => h_.1))) hb); have n4_ := Aside0.mk (Kd.V_below (by (with_reducible repeat (first | apply Kd.V_alloc | apply Kd.V_drewN | apply Kd.V_drew)); exact (Kd.V_mono (Kd.V_far (p := ⟨gb132, 3, none⟩) (Kd.V_far (p := ⟨gb132, 2, none⟩) (Kd.V_far (p := ⟨gb132, 1, none⟩) (Kd.V_far (p := ⟨gb132, 0, none⟩) (Kd.V_mono HO124.out (fun k_ hk => (⟨hk, hk.2.2⟩ : _ ∧ k_ ≠ gb132))) (fun _ hk => hk.2) (.int .i64 t119)) (fun _ hk => hk.2) (.int .i64 t125)) (fun _ hk => hk.2) (.bool ((rd l1 6) == 1))) (fun _ hk => hk.2) (.slice A32 y127.length c32)) (fun _ h_ => h_.1))) hb); have n5_ := Aside0.mk (Kd.V_below (by (with_reducible repeat (first | apply Kd.V_alloc | apply Kd.V_drewN | apply Kd.V_drew)); exact (Kd.V_mono (Kd.V_far (p := ⟨gb132, 3, none⟩) (Kd.V_far (p := ⟨gb132, 2, none⟩) (Kd.V_far (p := ⟨gb132, 1, none⟩) (Kd.V_far (p := ⟨gb132, 0, none⟩) (Kd.V_mono HO131.out (fun k_ hk => (⟨hk, hk.2.2⟩ : _ ∧ k_ ≠ gb132))) (fun _ hk => hk.2) (.int .i64 t119)) (fun _ hk => hk.2) (.int .i64 t125)) (fun _ hk => hk.2) (.bool ((rd l1 6) == 1))) (fun _ hk => hk.2) (.slice A32 y127.length c32)) (fun _ h_ => h_.1))) hb); have n6_ := Aside0.mk (blk_below (g := gb101) (o := .cells #[.int .i64 0, .int .i64 0, .bool false, .slice none 0 0] 63 (0, 0)) (by (with_reducible repeat (first | refine blk_drewN ?_ _ | refine blk_drew ?_ | refine blk_alloc ?_ _)); refine blk_far ?_ NB101_132.out _; (with_reducible repeat (first | refine blk_drewN ?_ _ | refine blk_drew ?_ | refine blk_alloc ?_ _)); refine blk_far ?_ NB101_132.out _; (with_reducible repeat (first | refine blk_drewN ?_ _ | refine blk_drew ?_ | refine blk_alloc ?_ _)); refine blk_far ?_ NB101_132.out _; (with_reducible repeat (first | refine blk_drewN ?_ _ | refine blk_drew ?_ | refine blk_alloc ?_ _)); refine blk_far ?_ NB101_132.out _; (with_reducible repeat (first | refine blk_drewN ?_ _ | refine blk_drew ?_ | refine blk_alloc ?_ _)); exact BK101.out) hb); have n7_ := Aside0.mk (blk_below (g := gb132) (o := .cells #[.int .i64 t119, .int .i64 t125, .bool ((rd l1 6) == 1), .slice A32 y127.length c32] 63 (0, 0)) (by (with_reducible repeat (first | refine blk_drewN ?_ _ | refine blk_drew ?_ | refine blk_alloc ?_ _)); refine blk_put (cs := #[.int .i64 t119, .int .i64 t125, .bool ((rd l1 6) == 1), .slice none 0 0]) ?_ 3 _ rfl; (with_reducible repeat (first | refine blk_drewN ?_ _ | refine blk_drew ?_ | refine blk_alloc ?_ _)); refine blk_put (cs := #[.int .i64 t119, .int .i64 t125, .bool false, .slice none 0 0]) ?_ 2 _ rfl; (with_reducible repeat (first | refine blk_drewN ?_ _ | refine blk_drew ?_ | refine blk_alloc ?_ _)); refine blk_put (cs := #[.int .i64 t119, .int .i64 0, .bool false, .slice none 0 0]) ?_ 1 _ rfl; (with_reducible repeat (first | refine blk_drewN ?_ _ | refine blk_drew ?_ | refine blk_alloc ?_ _)); refine blk_put (cs := #[.int .i64 0, .int .i64 0, .bool false, .slice none 0 0]) ?_ 0 _ rfl; (with_reducible repeat (first | refine blk_drewN ?_ _ | refine blk_drew ?_ | refine blk_alloc ?_ _)); exact BK132.out) hb); have n8_ := Aside0.mk (below_step (by repeat (first | (with_reducible first | exact HB.out | apply below_alloc | apply pw_below_drewN | apply below_drew1 | refine below_set ?_ GE101.out | refine below_set ?_ GE132.out) | exact HB.out)) hb); clear HO1; clear HO106; clear HO112; clear HO118; clear HO124; clear HO131; clear BK101; clear BK132; clear HB; have HO1 := n0_; have HO106 := n1_; have HO112 := n2_; have HO118 := n3_; have HO124 := n4_; have HO131 := n5_; have BK101 := n6_; have BK132 := n7_; have HB := n8_; clear n0_ n1_ n2_ n3_ n4_ n5_ n6_ n7_ n8_; (try clear hb); (try clear hb2); (try clear hk); (try clear hi); have hcz82_0 : w81.cell? ⟨gb132, 0, none⟩ = some (.int .i64 t119) := (blk_cell BK132.out 0).trans rfl; have hcz82_1 : w81.cell? ⟨gb132, 1, none⟩ = some (.int .i64 t125) := (blk_cell BK132.out 1).trans rfl; have hcz82_2 : w81.cell? ⟨gb132, 2, none⟩ = some (.bool ((rd l1 6) == 1)) := (blk_cell BK132.out 2).trans rfl; have hcz82_3 : w81.cell? ⟨gb132, 3, none⟩ = some (.slice A32 y127.length c32) := (blk_cell BK132.out 3).trans rfl; have hfz82_0 := blk_frozen BK132.out 0; have hfz82_1 := blk_frozen BK132.out 1; have hfz82_2 := blk_frozen BK132.out 2; have hfz82_3 := blk_frozen BK132.out 3; have hcz83_0 : w81.cell? ⟨gb101, 0, none⟩ = some (.int .i64 0) := (blk_cell BK101.out 0).trans rfl; have hcz83_1 : w81.cell? ⟨gb101, 1, none⟩ = some (.int .i64 0) := (blk_cell BK101.out 1).trans rfl; have hcz83_2 : w81.cell? ⟨gb101, 2, none⟩ = some (.bool false) := (by first | exact (blk_cell BK101.out 2).trans rfl | (refine (blk_cell BK101.out 2).trans ?_; show some (Value.bool _) = some (Value.bool _); congr 2; first | (with_reducible assumption) | exact Eq.symm (Aside0.out (by with_reducible assumption)))); have hcz83_3 : w81.cell? ⟨gb101, 3, none⟩ = some (.slice none 0 0) := (blk_cell BK101.out 3).trans rfl; have hfz83_0 := blk_frozen BK101.out 0; have hfz83_1 := blk_frozen BK101.out 1; have hfz83_2 := blk_frozen BK101.out 2; have hfz83_3 := blk_frozen BK101.out 3))
                          refine bodyPost_ret (results_ct rfl _ _ gb101 63 #[.int .i64 t119, .int .i64 t125, .bool ((rd l1 6) == 1), .slice A32 y127.length c32] (0, 0) _ rfl (by (with_reducible repeat (first | refine blk_drewN ?_ _ | refine blk_drew ?_ | refine blk_alloc ?_ _)); refine blk_put (cs := #[.int .i64 t119, .int .i64 t125, .bool ((rd l1 6) == 1), .slice none 0 0]) ?_ 3 _ rfl; (with_reducible repeat (first | refine blk_drewN ?_ _ | refine blk_drew ?_ | refine blk_alloc ?_ _)); refine blk_put (cs := #[.int .i64 t119, .int .i64 t125, .bool false, .slice none 0 0]) ?_ 2 _ rfl; (with_reducible repeat (first | refine blk_drewN ?_ _ | refine blk_drew ?_ | refine blk_alloc ?_ _)); refine blk_put (cs := #[.int .i64 t119, .int .i64 0, .bool false, .slice none 0 0]) ?_ 1 _ rfl; (with_reducible repeat (first | refine blk_drewN ?_ _ | refine blk_drew ?_ | refine blk_alloc ?_ _)); refine blk_put (cs := #[.int .i64 0, .int .i64 0, .bool false, .slice none 0 0]) ?_ 0 _ rfl; (with_reducible repeat (first | refine blk_drewN ?_ _ | refine blk_drew ?_ | refine blk_alloc ?_ _)); exact BK101.out) Try.underlying63 rfl (by kernel_rfl)) rfl ?_
                          have H := HMe_.out
                          obtain ⟨rfl, rfl, rfl, rfl, rfl⟩ := H
                          exact ⟨_, by first | rfl | (simp [errW_none, errW_some] <;> rfl) | (simp only [← hji6]; first | rfl | (simp [errW_none, errW_some] <;> rfl)) | (simp [*, errW_none, errW_some] <;> rfl), by (with_reducible repeat (first | apply Kd.V_alloc | apply Kd.V_drewN | apply Kd.V_drew)); exact Kd.V_mono (Kd.V_far (p := ⟨gb101, 3, none⟩) (Kd.V_far (p := ⟨gb101, 2, none⟩) (Kd.V_far (p := ⟨gb101, 1, none⟩) (Kd.V_far (p := ⟨gb101, 0, none⟩) (Kd.V_mono HO131.out (fun k_ hk => (⟨hk, hk.2.1⟩ : _ ∧ k_ ≠ gb101))) (fun _ hk => hk.2) (.int .i64 t119)) (fun _ hk => hk.2) (.int .i64 t125)) (fun _ hk => hk.2) (.bool ((rd l1 6) == 1))) (fun _ hk => hk.2) (.slice A32 y127.length c32)) (fun _ hk => hk.1.1), by repeat (first | (with_reducible first | exact HB.out | apply below_alloc | apply pw_below_drewN | apply below_drew1 | refine below_set ?_ GE101.out | refine below_set ?_ GE132.out) | exact HB.out)⟩
                        · replace c64 := Bool.eq_false_iff.mpr c64
                          subst c64
                          have H1 : (some (0, 0, false, ([] : List Int), 2)) = some (r1, r2, r3, r4, r5) := by rw [if_neg (show ¬ (false = true) by decide)] at H; exact H
                          clear H
                          have H := H1
                          clear H1
                          simp only [Option.some.injEq, Prod.mk.injEq] at H
                          have HMe_ := Aside0.mk H
                          clear H
                          try go_wp2_with (first | (go_at_call 43; (with_reducible refine (psalteryref19_Right.calls t119 t125 ((rd l1 6) == 1) _ _ y127 false _ ?side1 ?side2 A63.out).mono ?_); (case side1 => refine (Kd.V_reads' (e := 5) (base := w.heap.size) (ok := fun k_ => ((P1_ k_ ∨ w.heap.size ≤ k_) ∧ (k_ ≠ gb101 ∧ k_ ≠ gb132))) (n := y127.length) (c := c32) ?_).2.2; exact (by (with_reducible repeat (first | apply Kd.V_alloc | apply Kd.V_drewN | apply Kd.V_drew)); exact (Kd.V_mono (Kd.V_far (p := ⟨gb132, 3, none⟩) (Kd.V_far (p := ⟨gb132, 2, none⟩) (Kd.V_far (p := ⟨gb132, 1, none⟩) (Kd.V_far (p := ⟨gb132, 0, none⟩) (Kd.V_mono HO131.out (fun k_ hk => (⟨hk, hk.2.2⟩ : _ ∧ k_ ≠ gb132))) (fun _ hk => hk.2) (.int .i64 t119)) (fun _ hk => hk.2) (.int .i64 t125)) (fun _ hk => hk.2) (.bool ((rd l1 6) == 1))) (fun _ hk => hk.2) (.slice A32 y127.length c32)) (fun _ h_ => h_.1)))); (case side2 => exact (Kd.V_reads' HO131.out).2.1); rintro e w100 ⟨rfl, hb⟩; have n0_ := Aside0.mk (Kd.V_below (by (with_reducible repeat (first | apply Kd.V_alloc | apply Kd.V_drewN | apply Kd.V_drew)); exact (Kd.V_mono (Kd.V_far (p := ⟨gb132, 3, none⟩) (Kd.V_far (p := ⟨gb132, 2, none⟩) (Kd.V_far (p := ⟨gb132, 1, none⟩) (Kd.V_far (p := ⟨gb132, 0, none⟩) (Kd.V_mono HO1.out (fun k_ hk => (⟨hk, hk.2.2⟩ : _ ∧ k_ ≠ gb132))) (fun _ hk => hk.2) (.int .i64 t119)) (fun _ hk => hk.2) (.int .i64 t125)) (fun _ hk => hk.2) (.bool ((rd l1 6) == 1))) (fun _ hk => hk.2) (.slice A32 y127.length c32)) (fun _ h_ => h_.1))) hb); have n1_ := Aside0.mk (Kd.V_below (by (with_reducible repeat (first | apply Kd.V_alloc | apply Kd.V_drewN | apply Kd.V_drew)); exact (Kd.V_mono (Kd.V_far (p := ⟨gb132, 3, none⟩) (Kd.V_far (p := ⟨gb132, 2, none⟩) (Kd.V_far (p := ⟨gb132, 1, none⟩) (Kd.V_far (p := ⟨gb132, 0, none⟩) (Kd.V_mono HO106.out (fun k_ hk => (⟨hk, hk.2.2⟩ : _ ∧ k_ ≠ gb132))) (fun _ hk => hk.2) (.int .i64 t119)) (fun _ hk => hk.2) (.int .i64 t125)) (fun _ hk => hk.2) (.bool ((rd l1 6) == 1))) (fun _ hk => hk.2) (.slice A32 y127.length c32)) (fun _ h_ => h_.1))) hb); have n2_ := Aside0.mk (Kd.V_below (by (with_reducible repeat (first | apply Kd.V_alloc | apply Kd.V_drewN | apply Kd.V_drew)); exact (Kd.V_mono (Kd.V_far (p := ⟨gb132, 3, none⟩) (Kd.V_far (p := ⟨gb132, 2, none⟩) (Kd.V_far (p := ⟨gb132, 1, none⟩) (Kd.V_far (p := ⟨gb132, 0, none⟩) (Kd.V_mono HO112.out (fun k_ hk => (⟨hk, hk.2.2⟩ : _ ∧ k_ ≠ gb132))) (fun _ hk => hk.2) (.int .i64 t119)) (fun _ hk => hk.2) (.int .i64 t125)) (fun _ hk => hk.2) (.bool ((rd l1 6) == 1))) (fun _ hk => hk.2) (.slice A32 y127.length c32)) (fun _ h_ => h_.1))) hb); have n3_ := Aside0.mk (Kd.V_below (by (with_reducible repeat (first | apply Kd.V_alloc | apply Kd.V_drewN | apply Kd.V_drew)); exact (Kd.V_mono (Kd.V_far (p := ⟨gb132, 3, none⟩) (Kd.V_far (p := ⟨gb132, 2, none⟩) (Kd.V_far (p := ⟨gb132, 1, none⟩) (Kd.V_far (p := ⟨gb132, 0, none⟩) (Kd.V_mono HO118.out (fun k_ hk => (⟨hk, hk.2.2⟩ : _ ∧ k_ ≠ gb132))) (fun _ hk => hk.2) (.int .i64 t119)) (fun _ hk => hk.2) (.int .i64 t125)) (fun _ hk => hk.2) (.bool ((rd l1 6) == 1))) (fun _ hk => hk.2) (.slice A32 y127.length c32)) (fun _ h_ => h_.1))) hb); have n4_ := Aside0.mk (Kd.V_below (by (with_reducible repeat (first | apply Kd.V_alloc | apply Kd.V_drewN | apply Kd.V_drew)); exact (Kd.V_mono (Kd.V_far (p := ⟨gb132, 3, none⟩) (Kd.V_far (p := ⟨gb132, 2, none⟩) (Kd.V_far (p := ⟨gb132, 1, none⟩) (Kd.V_far (p := ⟨gb132, 0, none⟩) (Kd.V_mono HO124.out (fun k_ hk => (⟨hk, hk.2.2⟩ : _ ∧ k_ ≠ gb132))) (fun _ hk => hk.2) (.int .i64 t119)) (fun _ hk => hk.2) (.int .i64 t125)) (fun _ hk => hk.2) (.bool ((rd l1 6) == 1))) (fun _ hk => hk.2) (.slice A32 y127.length c32)) (fun _ h_ => h_.1))) hb); have n5_ := Aside0.mk (Kd.V_below (by (with_reducible repeat (first | apply Kd.V_alloc | apply Kd.V_drewN | apply Kd.V_drew)); exact (Kd.V_mono (Kd.V_far (p := ⟨gb132, 3, none⟩) (Kd.V_far (p := ⟨gb132, 2, none⟩) (Kd.V_far (p := ⟨gb132, 1, none⟩) (Kd.V_far (p := ⟨gb132, 0, none⟩) (Kd.V_mono HO131.out (fun k_ hk => (⟨hk, hk.2.2⟩ : _ ∧ k_ ≠ gb132))) (fun _ hk => hk.2) (.int .i64 t119)) (fun _ hk => hk.2) (.int .i64 t125)) (fun _ hk => hk.2) (.bool ((rd l1 6) == 1))) (fun _ hk => hk.2) (.slice A32 y127.length c32)) (fun _ h_ => h_.1))) hb); have n6_ := Aside0.mk (blk_below (g := gb101) (o := .cells #[.int .i64 0, .int .i64 0, .bool false, .slice none 0 0] 63 (0, 0)) (by (with_reducible repeat (first | refine blk_drewN ?_ _ | refine blk_drew ?_ | refine blk_alloc ?_ _)); refine blk_far ?_ NB101_132.out _; (with_reducible repeat (first | refine blk_drewN ?_ _ | refine blk_drew ?_ | refine blk_alloc ?_ _)); refine blk_far ?_ NB101_132.out _; (with_reducible repeat (first | refine blk_drewN ?_ _ | refine blk_drew ?_ | refine blk_alloc ?_ _)); refine blk_far ?_ NB101_132.out _; (with_reducible repeat (first | refine blk_drewN ?_ _ | refine blk_drew ?_ | refine blk_alloc ?_ _)); refine blk_far ?_ NB101_132.out _; (with_reducible repeat (first | refine blk_drewN ?_ _ | refine blk_drew ?_ | refine blk_alloc ?_ _)); exact BK101.out) hb); have n7_ := Aside0.mk (blk_below (g := gb132) (o := .cells #[.int .i64 t119, .int .i64 t125, .bool ((rd l1 6) == 1), .slice A32 y127.length c32] 63 (0, 0)) (by (with_reducible repeat (first | refine blk_drewN ?_ _ | refine blk_drew ?_ | refine blk_alloc ?_ _)); refine blk_put (cs := #[.int .i64 t119, .int .i64 t125, .bool ((rd l1 6) == 1), .slice none 0 0]) ?_ 3 _ rfl; (with_reducible repeat (first | refine blk_drewN ?_ _ | refine blk_drew ?_ | refine blk_alloc ?_ _)); refine blk_put (cs := #[.int .i64 t119, .int .i64 t125, .bool false, .slice none 0 0]) ?_ 2 _ rfl; (with_reducible repeat (first | refine blk_drewN ?_ _ | refine blk_drew ?_ | refine blk_alloc ?_ _)); refine blk_put (cs := #[.int .i64 t119, .int .i64 0, .bool false, .slice none 0 0]) ?_ 1 _ rfl; (with_reducible repeat (first | refine blk_drewN ?_ _ | refine blk_drew ?_ | refine blk_alloc ?_ _)); refine blk_put (cs := #[.int .i64 0, .int .i64 0, .bool false, .slice none 0 0]) ?_ 0 _ rfl; (with_reducible repeat (first | refine blk_drewN ?_ _ | refine blk_drew ?_ | refine blk_alloc ?_ _)); exact BK132.out) hb); have n8_ := Aside0.mk (below_step (by repeat (first | (with_reducible first | exact HB.out | apply below_alloc | apply pw_below_drewN | apply below_drew1 | refine below_set ?_ GE101.out | refine below_set ?_ GE132.out) | exact HB.out)) hb); clear HO1; clear HO106; clear HO112; clear HO118; clear HO124; clear HO131; clear BK101; clear BK132; clear HB; have HO1 := n0_; have HO106 := n1_; have HO112 := n2_; have HO118 := n3_; have HO124 := n4_; have HO131 := n5_; have BK101 := n6_; have BK132 := n7_; have HB := n8_; clear n0_ n1_ n2_ n3_ n4_ n5_ n6_ n7_ n8_; (try clear hb); (try clear hb2); (try clear hk); (try clear hi); have hcz101_0 : w100.cell? ⟨gb101, 0, none⟩ = some (.int .i64 0) := (blk_cell BK101.out 0).trans rfl; have hcz101_1 : w100.cell? ⟨gb101, 1, none⟩ = some (.int .i64 0) := (blk_cell BK101.out 1).trans rfl; have hcz101_2 : w100.cell? ⟨gb101, 2, none⟩ = some (.bool false) := (by first | exact (blk_cell BK101.out 2).trans rfl | (refine (blk_cell BK101.out 2).trans ?_; show some (Value.bool _) = some (Value.bool _); congr 2; first | (with_reducible assumption) | exact Eq.symm (Aside0.out (by with_reducible assumption)))); have hcz101_3 : w100.cell? ⟨gb101, 3, none⟩ = some (.slice none 0 0) := (blk_cell BK101.out 3).trans rfl; have hfz101_0 := blk_frozen BK101.out 0; have hfz101_1 := blk_frozen BK101.out 1; have hfz101_2 := blk_frozen BK101.out 2; have hfz101_3 := blk_frozen BK101.out 3))
                          refine bodyPost_ret (results_ct rfl _ _ gb101 63 #[.int .i64 0, .int .i64 0, .bool false, .slice none 0 0] (0, 0) _ rfl (by (with_reducible repeat (first | refine blk_drewN ?_ _ | refine blk_drew ?_ | refine blk_alloc ?_ _)); refine blk_put (cs := #[.int .i64 0, .int .i64 0, .bool false, .slice none 0 0]) ?_ 3 _ rfl; (with_reducible repeat (first | refine blk_drewN ?_ _ | refine blk_drew ?_ | refine blk_alloc ?_ _)); refine blk_put (cs := #[.int .i64 0, .int .i64 0, .bool false, .slice none 0 0]) ?_ 2 _ rfl; (with_reducible repeat (first | refine blk_drewN ?_ _ | refine blk_drew ?_ | refine blk_alloc ?_ _)); refine blk_put (cs := #[.int .i64 0, .int .i64 0, .bool false, .slice none 0 0]) ?_ 1 _ rfl; (with_reducible repeat (first | refine blk_drewN ?_ _ | refine blk_drew ?_ | refine blk_alloc ?_ _)); refine blk_put (cs := #[.int .i64 0, .int .i64 0, .bool false, .slice none 0 0]) ?_ 0 _ rfl; (with_reducible repeat (first | refine blk_drewN ?_ _ | refine blk_drew ?_ | refine blk_alloc ?_ _)); exact BK101.out) Try.underlying63 rfl (by kernel_rfl)) rfl ?_
                          have H := HMe_.out
                          obtain ⟨rfl, rfl, rfl, rfl, rfl⟩ := H
                          exact ⟨_, by first | rfl | (simp [errW_none, errW_some] <;> rfl) | (simp only [← hji6]; first | rfl | (simp [errW_none, errW_some] <;> rfl)) | (simp [*, errW_none, errW_some] <;> rfl), Kd.V_nil _ _ _ _ _, by repeat (first | (with_reducible first | exact HB.out | apply below_alloc | apply pw_below_drewN | apply below_drew1 | refine below_set ?_ GE101.out | refine below_set ?_ GE132.out) | exact HB.out)⟩
                      · rw [if_neg c62] at H
                        have c62b0 : ((rd l1 6) == 1) = false := beq_eq_false_iff_ne.mpr c62
                        have c62b1 : ((rd l1 6) != 1) = true := bne_iff_ne.mpr c62
                        simp only [Option.some.injEq, Prod.mk.injEq] at H
                        have HMe_ := Aside0.mk H
                        clear H
                        have hnb116 := NB101_132.out
                        have hnc116 := NB132_101.out
                        have hcz117_0 : w34.cell? ⟨gb101, 0, none⟩ = some (.int .i64 0) := (blk_cell BK101.out 0).trans rfl
                        have hcz117_1 : w34.cell? ⟨gb101, 1, none⟩ = some (.int .i64 0) := (blk_cell BK101.out 1).trans rfl
                        have hcz117_2 : w34.cell? ⟨gb101, 2, none⟩ = some (.bool false) := (by first | exact (blk_cell BK101.out 2).trans rfl | (refine (blk_cell BK101.out 2).trans ?_; show some (Value.bool _) = some (Value.bool _); congr 2; first | (with_reducible assumption) | exact Eq.symm (Aside0.out (by with_reducible assumption))))
                        have hcz117_3 : w34.cell? ⟨gb101, 3, none⟩ = some (.slice none 0 0) := (blk_cell BK101.out 3).trans rfl
                        have hfz117_0 := blk_frozen BK101.out 0
                        have hfz117_1 := blk_frozen BK101.out 1
                        have hfz117_2 := blk_frozen BK101.out 2
                        have hfz117_3 := blk_frozen BK101.out 3
                        try go_wp2
                        refine bodyPost_ret (results_ct rfl _ _ gb101 63 #[.int .i64 0, .int .i64 0, .bool false, .slice none 0 0] (0, 0) _ rfl (by (with_reducible repeat (first | refine blk_drewN ?_ _ | refine blk_drew ?_ | refine blk_alloc ?_ _)); refine blk_put (cs := #[.int .i64 0, .int .i64 0, .bool false, .slice none 0 0]) ?_ 3 _ rfl; (with_reducible repeat (first | refine blk_drewN ?_ _ | refine blk_drew ?_ | refine blk_alloc ?_ _)); refine blk_put (cs := #[.int .i64 0, .int .i64 0, .bool false, .slice none 0 0]) ?_ 2 _ rfl; (with_reducible repeat (first | refine blk_drewN ?_ _ | refine blk_drew ?_ | refine blk_alloc ?_ _)); refine blk_put (cs := #[.int .i64 0, .int .i64 0, .bool false, .slice none 0 0]) ?_ 1 _ rfl; (with_reducible repeat (first | refine blk_drewN ?_ _ | refine blk_drew ?_ | refine blk_alloc ?_ _)); refine blk_put (cs := #[.int .i64 0, .int .i64 0, .bool false, .slice none 0 0]) ?_ 0 _ rfl; (with_reducible repeat (first | refine blk_drewN ?_ _ | refine blk_drew ?_ | refine blk_alloc ?_ _)); refine blk_far ?_ NB101_132.out _; (with_reducible repeat (first | refine blk_drewN ?_ _ | refine blk_drew ?_ | refine blk_alloc ?_ _)); refine blk_far ?_ NB101_132.out _; (with_reducible repeat (first | refine blk_drewN ?_ _ | refine blk_drew ?_ | refine blk_alloc ?_ _)); refine blk_far ?_ NB101_132.out _; (with_reducible repeat (first | refine blk_drewN ?_ _ | refine blk_drew ?_ | refine blk_alloc ?_ _)); refine blk_far ?_ NB101_132.out _; (with_reducible repeat (first | refine blk_drewN ?_ _ | refine blk_drew ?_ | refine blk_alloc ?_ _)); exact BK101.out) Try.underlying63 rfl (by kernel_rfl)) rfl ?_
                        have H := HMe_.out
                        obtain ⟨rfl, rfl, rfl, rfl, rfl⟩ := H
                        exact ⟨_, by first | rfl | (simp [errW_none, errW_some] <;> rfl) | (simp only [← hji6]; first | rfl | (simp [errW_none, errW_some] <;> rfl)) | (simp [*, errW_none, errW_some] <;> rfl), Kd.V_nil _ _ _ _ _, by repeat (first | (with_reducible first | exact HB.out | apply below_alloc | apply pw_below_drewN | apply below_drew1 | refine below_set ?_ GE101.out | refine below_set ?_ GE132.out) | exact HB.out)⟩
                  · rw [if_neg c20] at H
                    exact absurd H (by simp)
                · rw [if_neg c19] at H
                  exact absurd H (by simp)
              · rw [if_neg c17] at H
                exact absurd H (by simp)
            · rw [if_neg c16] at H
              exact absurd H (by simp)
          · rw [if_neg c14] at H
            exact absurd H (by simp)
        · rw [if_neg c13] at H
          have c13b0 : (t107 == (wrap64 (Go.bits .xor .u32 t113 4294967295))) = false := beq_eq_false_iff_ne.mpr c13
          have c13b1 : (t107 != (wrap64 (Go.bits .xor .u32 t113 4294967295))) = true := bne_iff_ne.mpr c13
          simp only [Option.some.injEq, Prod.mk.injEq] at H
          have HMe_ := Aside0.mk H
          clear H
          have hcz122_0 : w26.cell? ⟨gb101, 0, none⟩ = some (.int .i64 0) := (blk_cell BK101.out 0).trans rfl
          have hcz122_1 : w26.cell? ⟨gb101, 1, none⟩ = some (.int .i64 0) := (blk_cell BK101.out 1).trans rfl
          have hcz122_2 : w26.cell? ⟨gb101, 2, none⟩ = some (.bool false) := (by first | exact (blk_cell BK101.out 2).trans rfl | (refine (blk_cell BK101.out 2).trans ?_; show some (Value.bool _) = some (Value.bool _); congr 2; first | (with_reducible assumption) | exact Eq.symm (Aside0.out (by with_reducible assumption))))
          have hcz122_3 : w26.cell? ⟨gb101, 3, none⟩ = some (.slice none 0 0) := (blk_cell BK101.out 3).trans rfl
          have hfz122_0 := blk_frozen BK101.out 0
          have hfz122_1 := blk_frozen BK101.out 1
          have hfz122_2 := blk_frozen BK101.out 2
          have hfz122_3 := blk_frozen BK101.out 3
          try go_wp2
          refine bodyPost_ret (results_ct rfl _ _ gb101 63 #[.int .i64 0, .int .i64 0, .bool false, .slice none 0 0] (0, 0) _ rfl (by (with_reducible repeat (first | refine blk_drewN ?_ _ | refine blk_drew ?_ | refine blk_alloc ?_ _)); refine blk_put (cs := #[.int .i64 0, .int .i64 0, .bool false, .slice none 0 0]) ?_ 3 _ rfl; (with_reducible repeat (first | refine blk_drewN ?_ _ | refine blk_drew ?_ | refine blk_alloc ?_ _)); refine blk_put (cs := #[.int .i64 0, .int .i64 0, .bool false, .slice none 0 0]) ?_ 2 _ rfl; (with_reducible repeat (first | refine blk_drewN ?_ _ | refine blk_drew ?_ | refine blk_alloc ?_ _)); refine blk_put (cs := #[.int .i64 0, .int .i64 0, .bool false, .slice none 0 0]) ?_ 1 _ rfl; (with_reducible repeat (first | refine blk_drewN ?_ _ | refine blk_drew ?_ | refine blk_alloc ?_ _)); refine blk_put (cs := #[.int .i64 0, .int .i64 0, .bool false, .slice none 0 0]) ?_ 0 _ rfl; (with_reducible repeat (first | refine blk_drewN ?_ _ | refine blk_drew ?_ | refine blk_alloc ?_ _)); exact BK101.out) Try.underlying63 rfl (by kernel_rfl)) rfl ?_
          have H := HMe_.out
          obtain ⟨rfl, rfl, rfl, rfl, rfl⟩ := H
          exact ⟨_, by first | rfl | (simp [errW_none, errW_some] <;> rfl) | (simp only [← hji6]; first | rfl | (simp [errW_none, errW_some] <;> rfl)) | (simp [*, errW_none, errW_some] <;> rfl), Kd.V_nil _ _ _ _ _, by repeat (first | (with_reducible first | exact HB.out | apply below_alloc | apply pw_below_drewN | apply below_drew1 | refine below_set ?_ GE101.out) | exact HB.out)⟩
      · rw [if_neg c8] at H
        exact absurd H (by simp)
    · rw [if_neg c7] at H
      exact absurd H (by simp)

end Go.Proofs.Yteoclecadpapfaa.G
