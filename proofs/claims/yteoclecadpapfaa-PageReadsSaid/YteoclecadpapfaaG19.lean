/- What a call of psaltery/psalterylaw18.PageReads does, told by a plain Lean function of its arguments. Written by a program for this claim. -/
import Derived.Test.YteoclecadpapfaaG0
import Derived.Test.YteoclecadpapfaaG33
import Derived.Test.YteoclecadpapfaaG35
import Derived.Test.YteoclecadpapfaaG36
import Derived.Test.YteoclecadpapfaaG37
import Derived.Test.YteoclecadpapfaaG57
import Derived.Test.YteoclecadpapfaaM24
namespace Go.Proofs.Yteoclecadpapfaa.G
open Go.RowKit Go.Proofs.YteoclecadpapfaaW.PrintWords Go.Proofs.YteoclecadpapfaaW.PrintLast Go.Proofs.YteoclecadpapfaaW.PrintMore
attribute [local go_sem] max2_int min2_int max_two min_two max_three min_three max_four min_four
set_option linter.unusedVariables false
set_option linter.unusedSimpArgs false

/-! ### psalterylaw18_PageReads: function 19 -/
def psalterylaw18_PageReads.j0 : Nat → List Int → List Int → Bool → Option (Bool)
 | 0, _, _, _ => none
 | k + 1, x0, x1, x18 => if x18 = true then ((psalterylaw18_knows.f).bind fun t101 => (some t101)) else ((some (([] : List Int) : List Int)).bind fun y102 => (if y102.length + x1.length < 140737488355328 then ((page_Read.f x0 (y102 ++ x1)).bind fun bt108 => (if (x0.length : Int) = 256 then ((psalteryref18_Read.f x0 x1).bind fun bt122 => ((psalterylaw18_As.f bt108.1 bt108.2.1 bt108.2.2.1 bt108.2.2.2.1 bt108.2.2.2.2.1 bt108.2.2.2.2.2.1 bt108.2.2.2.2.2.2.1).bind fun _ => ((psalteryref18_Same.f bt108.1 bt108.2.1 bt108.2.2.1 bt108.2.2.2.1 bt108.2.2.2.2.1 bt108.2.2.2.2.2.1 bt108.2.2.2.2.2.2.1 bt122.1 bt122.2.1 bt122.2.2.1 bt122.2.2.2.1 bt122.2.2.2.2.1 bt122.2.2.2.2.2.1 bt122.2.2.2.2.2.2.1).bind fun t134 => (if t134 = true then (if bt108.2.2.2.2.2.2.2.1 = bt122.2.2.2.2.2.2.2.1 then (if bt108.2.2.2.2.2.2.2.2 = bt122.2.2.2.2.2.2.2.2 then ((psalterylaw18_knows.f).bind fun t135 => (some t135)) else (some false)) else (some false)) else (some false))))) else ((psalterylaw18_As.f bt108.1 bt108.2.1 bt108.2.2.1 bt108.2.2.2.1 bt108.2.2.2.2.1 bt108.2.2.2.2.2.1 bt108.2.2.2.2.2.2.1).bind fun _ => ((psalteryref18_Same.f bt108.1 bt108.2.1 bt108.2.2.1 bt108.2.2.2.1 bt108.2.2.2.2.1 bt108.2.2.2.2.2.1 bt108.2.2.2.2.2.2.1 0 0 false false false false ([] : List (List Int))).bind fun t120 => (if t120 = true then (if bt108.2.2.2.2.2.2.2.1 = 0 then (if bt108.2.2.2.2.2.2.2.2 = 1 then ((psalterylaw18_knows.f).bind fun t121 => (some t121)) else (some false)) else (some false)) else (some false)))))) else (none)))
def psalterylaw18_PageReads.f (k : Nat) (l0 : List Int) (l1 : List Int) : Option (Bool) := if (l1.length : Int) > 5000 then (psalterylaw18_PageReads.j0 k l0 l1 true) else (psalterylaw18_PageReads.j0 k l0 l1 (decide ((l0.length : Int) > 1000)))
def psalterylaw18_PageReads.T7 : Bool × List (List Nat × List Nat) := (true, [([], []), ([0], [0]), ([], []), ([1, 2, 1], [1, 2]), ([3, 3], [3]), ([4], [4]), ([4], [4]), ([5, 6, 4], [4, 5, 6]), ([4, 7], [4, 7]), ([8, 4], [8]), ([9], [9]), ([9], [9]), ([10, 11, 9], [9, 10, 11]), ([9, 12], [9, 12]), ([13, 9], [13]), ([14, 14], [14]), ([14, 15], [14, 15]), ([16, 15, 0, 1, 2, 3, 4, 5, 6, 7, 8, 9, 10, 11, 12, 13, 14, 15, 16], [16])])
def psalterylaw18_PageReads.B7 : List Nat := [0, 1, 0, 7, 15, 31, 31, 127, 255, 511, 1023, 1023, 4095, 8191, 16383, 32767, 65535, 131071]
theorem psalterylaw18_PageReads.tab7 : rtab .any (opsOf Try.f19 7) = psalterylaw18_PageReads.T7 := by kernel_rfl
theorem psalterylaw18_PageReads.bits7 : waitsOk psalterylaw18_PageReads.T7.2 psalterylaw18_PageReads.B7 = true := by kernel_rfl
set_option maxHeartbeats 8000000 in
set_option maxRecDepth 100000 in
theorem psalterylaw18_PageReads.calls (k : Nat) (A0 : Option Addr) (c0 : Nat) (l0 : List Int) (A1 : Option Addr) (c1 : Nat) (l1 : List Int) (w : World) (hr0 : Kd.C (Kd.int .u32) w A0 l0.length l0) (hc0 : l0.length ≤ c0) (hr1 : Kd.C (Kd.int .u8) w A1 l1.length l1) (hc1 : l1.length ≤ c1) (h : psalterylaw18_PageReads.f k l0 l1 = some true) :
  Calls Try.prog 19 #[.slice A0 l0.length c0, .slice A1 l1.length c1] w fun e w' => e = .returned (.bool true) ∧ Below w.heap.size w w' := by
 have hu43 := Try.underlying43
 have hu50 := Try.underlying50
 have HR0 := Zma hr0
 have HC0 := Zma hc0
 clear hr0 hc0
 have HR1 := Zma hr1
 have HC1 := Zma hc1
 clear hr1 hc1
 have HB := Zma (Below.refl w.heap.size w)
 have H : (if (l1.length : Int) > 5000 then (psalterylaw18_PageReads.j0 k l0 l1 true) else (psalterylaw18_PageReads.j0 k l0 l1 (decide ((l0.length : Int) > 1000)))) = some true := h
 clear h
 have HC3 := Zma H
 clear H
 go_enter Try.func19, Try.ntmps19
 go_upto_region 1 with (fail)
 go_cut [18] (fun v18 wc => ∃ (kq : Nat) (x18_2 : Bool), v18 = .bool x18_2 ∧ Aside0 (psalterylaw18_PageReads.j0 kq l0 l1 x18_2 = some true) ∧ Aside0 (kq ≤ k) ∧ Aside0 (Below w.heap.size w wc))
 case first =>
  have H := HC3.out
  clear HC3
  by_cases c4 : (l1.length : Int) > 5000
  ·rw [if_pos c4] at H
   have c4b0 : decide (5000 < (l1.length : Int)) = true := Zn c4
   have c4b1 : decide (5000 < l1.length) = true := Zn (by omega)
   clear c4
   (first | rw [c4b0] | (simp only [i64_w, i32_w]; rw [c4b0]) | skip)
   have H' := Zma H
   clear H
   go_wp2
   go_meet
   case rel => exact ⟨_, (true), (by first | rfl | (simp; done) | (simp [*]; done)), H', ⟨by first | omega | exact Zra _⟩, ⟨bq⟩⟩
  rw [if_neg c4] at H
  have c4b0 : decide (5000 < (l1.length : Int)) = false := Zna c4
  have c4b1 : decide (5000 < l1.length) = false := Zna (by omega)
  clear c4
  (first | rw [c4b0] | (simp only [i64_w, i32_w]; rw [c4b0]) | skip)
  have H' := Zma H
  clear H
  go_wp2
  go_meet
  case rel => exact ⟨_, (decide ((l0.length : Int) > 1000)), (by first | rfl | (simp; done) | (simp [*]; done)), H', ⟨by first | omega | exact Zra _⟩, ⟨bq⟩⟩
 case rest =>
  clear HC3
  try clear c1
  try clear p2
  try clear c4
  try clear c4b0
  try clear c4b1
  obtain ⟨kq, x18_2, rfl, HA, HJ2, HB⟩ := hcut
  cases kq with
  | zero => exact absurd HA.out (by simp [psalterylaw18_PageReads.j0])
  | succ kj2 =>
   have H := HA.out
   clear HA
   simp only [psalterylaw18_PageReads.j0] at H
   by_cases c5 : x18_2 = true
   ·subst c5
    have H1 : ((psalterylaw18_knows.f).bind fun t101 => (some t101)) = some true := by rw [if_pos rfl] at H; exact H
    clear H
    have H := H1
    clear H1
    replace H := Option.bind_eq_some_iff.mp H
    obtain ⟨t101, A60, H⟩ := H
    replace H : (some t101) = some true := H
    have A6 := Zma A60
    clear A60
    obtain rfl := Zgb H
    go_wp2_with (first | ((with_reducible refine gate_callee (f := 33) rfl ?_); refine goesL_ (some 19) rfl rfl Try.func33 (by kernel_rfl) rfl #[] rfl (by (try simp only [Zdb, Zeb, Zfb]); first | done | rfl | (simp only [Zha, Zga]; rfl)) ?_; (with_reducible refine (psalterylaw18_knows.calls  true _ A6.out).mono ?_); rintro e w7 ⟨rfl, hb⟩; refine ⟨_, rfl, ?_⟩; have n0_ := Zma (Zoa bq hb); clear HB; have HB := n0_; clear n0_; (try clear hb); (try clear hb2); (try clear hk); (try clear hi)))
    go_ret
    exact ⟨by first | rfl | (simp [errW_none, errW_some] <;> rfl) | (simp [*, errW_none, errW_some] <;> rfl), bq⟩
   replace c5 := Bool.eq_false_iff.mpr c5
   subst c5
   have H1 : ((some (([] : List Int) : List Int)).bind fun y102 => (if y102.length + l1.length < 140737488355328 then ((page_Read.f l0 (y102 ++ l1)).bind fun bt108 => (if (l0.length : Int) = 256 then ((psalteryref18_Read.f l0 l1).bind fun bt122 => ((psalterylaw18_As.f bt108.1 bt108.2.1 bt108.2.2.1 bt108.2.2.2.1 bt108.2.2.2.2.1 bt108.2.2.2.2.2.1 bt108.2.2.2.2.2.2.1).bind fun _ => ((psalteryref18_Same.f bt108.1 bt108.2.1 bt108.2.2.1 bt108.2.2.2.1 bt108.2.2.2.2.1 bt108.2.2.2.2.2.1 bt108.2.2.2.2.2.2.1 bt122.1 bt122.2.1 bt122.2.2.1 bt122.2.2.2.1 bt122.2.2.2.2.1 bt122.2.2.2.2.2.1 bt122.2.2.2.2.2.2.1).bind fun t134 => (if t134 = true then (if bt108.2.2.2.2.2.2.2.1 = bt122.2.2.2.2.2.2.2.1 then (if bt108.2.2.2.2.2.2.2.2 = bt122.2.2.2.2.2.2.2.2 then ((psalterylaw18_knows.f).bind fun t135 => (some t135)) else (some false)) else (some false)) else (some false))))) else ((psalterylaw18_As.f bt108.1 bt108.2.1 bt108.2.2.1 bt108.2.2.2.1 bt108.2.2.2.2.1 bt108.2.2.2.2.2.1 bt108.2.2.2.2.2.2.1).bind fun _ => ((psalteryref18_Same.f bt108.1 bt108.2.1 bt108.2.2.1 bt108.2.2.2.1 bt108.2.2.2.2.1 bt108.2.2.2.2.2.1 bt108.2.2.2.2.2.2.1 0 0 false false false false ([] : List (List Int))).bind fun t120 => (if t120 = true then (if bt108.2.2.2.2.2.2.2.1 = 0 then (if bt108.2.2.2.2.2.2.2.2 = 1 then ((psalterylaw18_knows.f).bind fun t121 => (some t121)) else (some false)) else (some false)) else (some false)))))) else (none))) = some true := by rw [if_neg (show ¬ (false = true) by decide)] at H; exact H
   clear H
   have H := H1
   clear H1
   obtain ⟨y102, hy102⟩ : ∃ y_ : List Int, y_ = (([] : List Int)) := ⟨_, rfl⟩
   replace H : (if y102.length + l1.length < 140737488355328 then ((page_Read.f l0 (y102 ++ l1)).bind fun bt108 => (if (l0.length : Int) = 256 then ((psalteryref18_Read.f l0 l1).bind fun bt122 => ((psalterylaw18_As.f bt108.1 bt108.2.1 bt108.2.2.1 bt108.2.2.2.1 bt108.2.2.2.2.1 bt108.2.2.2.2.2.1 bt108.2.2.2.2.2.2.1).bind fun _ => ((psalteryref18_Same.f bt108.1 bt108.2.1 bt108.2.2.1 bt108.2.2.2.1 bt108.2.2.2.2.1 bt108.2.2.2.2.2.1 bt108.2.2.2.2.2.2.1 bt122.1 bt122.2.1 bt122.2.2.1 bt122.2.2.2.1 bt122.2.2.2.2.1 bt122.2.2.2.2.2.1 bt122.2.2.2.2.2.2.1).bind fun t134 => (if t134 = true then (if bt108.2.2.2.2.2.2.2.1 = bt122.2.2.2.2.2.2.2.1 then (if bt108.2.2.2.2.2.2.2.2 = bt122.2.2.2.2.2.2.2.2 then ((psalterylaw18_knows.f).bind fun t135 => (some t135)) else (some false)) else (some false)) else (some false))))) else ((psalterylaw18_As.f bt108.1 bt108.2.1 bt108.2.2.1 bt108.2.2.2.1 bt108.2.2.2.2.1 bt108.2.2.2.2.2.1 bt108.2.2.2.2.2.2.1).bind fun _ => ((psalteryref18_Same.f bt108.1 bt108.2.1 bt108.2.2.1 bt108.2.2.2.1 bt108.2.2.2.2.1 bt108.2.2.2.2.2.1 bt108.2.2.2.2.2.2.1 0 0 false false false false ([] : List (List Int))).bind fun t120 => (if t120 = true then (if bt108.2.2.2.2.2.2.2.1 = 0 then (if bt108.2.2.2.2.2.2.2.2 = 1 then ((psalterylaw18_knows.f).bind fun t121 => (some t121)) else (some false)) else (some false)) else (some false)))))) else (none)) = some true := by first | (rw [hy102]; with_reducible exact H) | (have H2_ := (Zsa _ _).symm.trans H; rw [hy102]; with_reducible exact H2_) | (have H2_ := (Zsa _ _).symm.trans H; with_reducible exact H2_) | with_reducible exact H | (rw [hy102]; exact H) | exact H
   have Ny102 := Zma hy102
   clear hy102
   by_cases c8 : y102.length + l1.length < 140737488355328
   rotate_left
   ·rw [if_neg c8] at H
    exact absurd H (by simp)
   rw [if_pos c8] at H
   have LMc8 := Zma c8
   clear c8
   obtain ⟨y105, hy105⟩ : ∃ y_ : List Int, y_ = (y102 ++ l1) := ⟨_, rfl⟩
   replace H : ((page_Read.f l0 y105).bind fun bt108 => (if (l0.length : Int) = 256 then ((psalteryref18_Read.f l0 l1).bind fun bt122 => ((psalterylaw18_As.f bt108.1 bt108.2.1 bt108.2.2.1 bt108.2.2.2.1 bt108.2.2.2.2.1 bt108.2.2.2.2.2.1 bt108.2.2.2.2.2.2.1).bind fun _ => ((psalteryref18_Same.f bt108.1 bt108.2.1 bt108.2.2.1 bt108.2.2.2.1 bt108.2.2.2.2.1 bt108.2.2.2.2.2.1 bt108.2.2.2.2.2.2.1 bt122.1 bt122.2.1 bt122.2.2.1 bt122.2.2.2.1 bt122.2.2.2.2.1 bt122.2.2.2.2.2.1 bt122.2.2.2.2.2.2.1).bind fun t134 => (if t134 = true then (if bt108.2.2.2.2.2.2.2.1 = bt122.2.2.2.2.2.2.2.1 then (if bt108.2.2.2.2.2.2.2.2 = bt122.2.2.2.2.2.2.2.2 then ((psalterylaw18_knows.f).bind fun t135 => (some t135)) else (some false)) else (some false)) else (some false))))) else ((psalterylaw18_As.f bt108.1 bt108.2.1 bt108.2.2.1 bt108.2.2.2.1 bt108.2.2.2.2.1 bt108.2.2.2.2.2.1 bt108.2.2.2.2.2.2.1).bind fun _ => ((psalteryref18_Same.f bt108.1 bt108.2.1 bt108.2.2.1 bt108.2.2.2.1 bt108.2.2.2.2.1 bt108.2.2.2.2.2.1 bt108.2.2.2.2.2.2.1 0 0 false false false false ([] : List (List Int))).bind fun t120 => (if t120 = true then (if bt108.2.2.2.2.2.2.2.1 = 0 then (if bt108.2.2.2.2.2.2.2.2 = 1 then ((psalterylaw18_knows.f).bind fun t121 => (some t121)) else (some false)) else (some false)) else (some false)))))) = some true := by first | (rw [hy105]; with_reducible exact H) | (have H2_ := (Zsa _ _).symm.trans H; rw [hy105]; with_reducible exact H2_) | (have H2_ := (Zsa _ _).symm.trans H; with_reducible exact H2_) | with_reducible exact H | (rw [hy105]; exact H) | exact H
   have Ny105 := Zma hy105
   clear hy105
   replace H := Option.bind_eq_some_iff.mp H
   obtain ⟨⟨t108, t109, t110, t111, t112, t113, t114, t117, t118⟩, A90, H⟩ := H
   replace H : (if (l0.length : Int) = 256 then ((psalteryref18_Read.f l0 l1).bind fun bt122 => ((psalterylaw18_As.f t108 t109 t110 t111 t112 t113 t114).bind fun _ => ((psalteryref18_Same.f t108 t109 t110 t111 t112 t113 t114 bt122.1 bt122.2.1 bt122.2.2.1 bt122.2.2.2.1 bt122.2.2.2.2.1 bt122.2.2.2.2.2.1 bt122.2.2.2.2.2.2.1).bind fun t134 => (if t134 = true then (if t117 = bt122.2.2.2.2.2.2.2.1 then (if t118 = bt122.2.2.2.2.2.2.2.2 then ((psalterylaw18_knows.f).bind fun t135 => (some t135)) else (some false)) else (some false)) else (some false))))) else ((psalterylaw18_As.f t108 t109 t110 t111 t112 t113 t114).bind fun _ => ((psalteryref18_Same.f t108 t109 t110 t111 t112 t113 t114 0 0 false false false false ([] : List (List Int))).bind fun t120 => (if t120 = true then (if t117 = 0 then (if t118 = 1 then ((psalterylaw18_knows.f).bind fun t121 => (some t121)) else (some false)) else (some false)) else (some false))))) = some true := H
   have A9 := Zma A90
   clear A90
   by_cases c10 : (l0.length : Int) = 256
   ·rw [if_pos c10] at H
    have c10b0 : ((l0.length : Int) == 256) = true := beq_iff_eq.mpr c10
    have c10b1 : ((l0.length : Int) != 256) = false := bne_eq_false_iff_eq.mpr c10
    clear c10
    replace H := Option.bind_eq_some_iff.mp H
    obtain ⟨⟨t122, t123, t124, t125, t126, t127, t128, t131, t132⟩, A110, H⟩ := H
    replace H : ((psalterylaw18_As.f t108 t109 t110 t111 t112 t113 t114).bind fun _ => ((psalteryref18_Same.f t108 t109 t110 t111 t112 t113 t114 t122 t123 t124 t125 t126 t127 t128).bind fun t134 => (if t134 = true then (if t117 = t131 then (if t118 = t132 then ((psalterylaw18_knows.f).bind fun t135 => (some t135)) else (some false)) else (some false)) else (some false)))) = some true := H
    have A11 := Zma A110
    clear A110
    replace H := Option.bind_eq_some_iff.mp H
    obtain ⟨_, A120, H⟩ := H
    replace H : ((psalteryref18_Same.f t108 t109 t110 t111 t112 t113 t114 t122 t123 t124 t125 t126 t127 t128).bind fun t134 => (if t134 = true then (if t117 = t131 then (if t118 = t132 then ((psalterylaw18_knows.f).bind fun t135 => (some t135)) else (some false)) else (some false)) else (some false))) = some true := H
    have A12 := Zma A120
    clear A120
    replace H := Option.bind_eq_some_iff.mp H
    obtain ⟨t134, A130, H⟩ := H
    replace H : (if t134 = true then (if t117 = t131 then (if t118 = t132 then ((psalterylaw18_knows.f).bind fun t135 => (some t135)) else (some false)) else (some false)) else (some false)) = some true := H
    have A13 := Zma A130
    clear A130
    by_cases c14 : t134 = true
    ·subst c14
     have H1 : (if t117 = t131 then (if t118 = t132 then ((psalterylaw18_knows.f).bind fun t135 => (some t135)) else (some false)) else (some false)) = some true := by rw [if_pos rfl] at H; exact H
     clear H
     have H := H1
     clear H1
     by_cases c15 : t117 = t131
     rotate_left
     ·rw [if_neg c15] at H
      exact absurd H (by simp)
     rw [if_pos c15] at H
     have c15b0 : (t117 == t131) = true := beq_iff_eq.mpr c15
     have c15b1 : (t117 != t131) = false := bne_eq_false_iff_eq.mpr c15
     clear c15
     by_cases c16 : t118 = t132
     rotate_left
     ·rw [if_neg c16] at H
      exact absurd H (by simp)
     rw [if_pos c16] at H
     have c16b0 : (t118 == t132) = true := beq_iff_eq.mpr c16
     have c16b1 : (t118 != t132) = false := bne_eq_false_iff_eq.mpr c16
     clear c16
     replace H := Option.bind_eq_some_iff.mp H
     obtain ⟨t135, A170, H⟩ := H
     replace H : (some t135) = some true := H
     have A17 := Zma A170
     clear A170
     obtain rfl := Zgb H
     try go_wp2_with (first | ((with_reducible refine gate_dst (N := 22) rfl ?_); (try (refine gate_guard (by rfl) ?_; dsimp only)); refine Kd.R_lit (Kd.int .u8) _ 5 ?hg (N := 22) ?hd (xs := ([] : List Int)) (inner := []) (ok := fun _ => True) (okp := fun _ => True) ?hr ?hp (fun _ hk => hk) trivial (Below.refl _ _) (Zra _) (by simp) ?_; (case hd => rfl); (case hg => rfl); (case hr => first | (go_simp; done) | (go_simp; rfl)); (case hp => exact (Reps.none _ _)); intro v103 w18 ho19 hb hg_ hnew_; clear hg_ hnew_; (first | rw [← Ny102.out] at ho19 | (simp only [Int.reduceToNat] at ho19; rw [← Ny102.out] at ho19)); have n0_ := Zma (Zxa ho19 (Zfa bq)); have n1_ := Zma (Zoa bq hb); clear HB; have HO104 := n0_; have HB := n1_; clear n0_ n1_ hb ho19) | ((with_reducible refine gate_builtin (b := .append) (xs := #[.tmp 22, .tmp 23]) rfl ?_); (try (refine gate_guard (by rfl) ?_; dsimp only)); at_builtin; refine Kd.R_append_rows (Kd.int .u8) (w0 := w) w.heap.size rfl (.tmp 22) (.tmp 23) 28 5 (.int .u8 0) 1 rfl Try.underlying28 info5 rfl (by decide) (by omega) v103 y102 l1 _ _ _ (fun _ => True) (fun _ => False) rfl rfl ?aO ?aR (fun _ _ h => h) (fun _ h => h.elim) ?aF ?aB ?aS ?aL ?_; (case aR => exact cq ((Kd.C_below HR1.out HB.out))); (case aB => exact bq); (case aF => exact (fun _ _ => trivial)); (case aO => exact (rq HO104.out)); (case aS => exact (Zfa bq)); (case aL => have := LMc8.out; omega); intro v106 w20 ho hb hg hat; rw [← Ny105.out] at ho; have n0_ := Zma (hb); have n1_ := Zma (ho); clear HB HO104; have HB := n0_; have HO107 := n1_; clear n0_ n1_ ho hb hg hat; obtain ⟨Ao21, co21, eo21⟩ := Kd.R_slice HO107.out; subst eo21) | ((with_reducible refine gate_callee (f := 35) rfl ?_); refine goesL_ (some 25) rfl rfl Try.func35 (by kernel_rfl) rfl #[.slice A0 l0.length c0, .slice Ao21 y105.length co21] rfl (by (try simp only [Zdb, Zeb, Zfb]); first | done | rfl | (simp only [Zha, Zga]; rfl)) ?_; (with_reducible refine (page_Read.calls _ _ l0 _ _ y105 t108 t109 t110 t111 t112 t113 t114 t117 t118 _ ?side1 ?side2 ?side3 ?side4 A9.out).mono ?_); (case side1 => exact cq ((Kd.C_below HR0.out HB.out))); (case side2 => exact HC0.out); (case side3 => exact cq ((Zkb HO107.out).2.2)); (case side4 => exact (Zkb HO107.out).2.1); rintro e w22 ⟨v115, rfl, ho0, hb⟩; refine ⟨_, rfl, ?_⟩; have n0_ := Zma (Zza (rq HO107.out) hb); have n1_ := Zma (Kd.N_lower (Kd.N_mono (ok' := fun k_ => some k_ ≠ (.slice Ao21 y105.length co21 : Value).ownBlock) (Kd.S_N (Kd.S_bound ho0)) (fun k_ hk_ => (Kd.fresh' (Kd.R_lt (rq HO107.out)) k_ hk_.2.1))) (Zfa bq)); have n2_ := Zma (Zoa bq hb); clear HO107 HB; have HO107 := n0_; have HO116 := n1_; have HB := n2_; clear n0_ n1_ n2_; (try clear hb); (try clear hb2); (try clear hk); (try clear hi); (try clear ho0)) | ((with_reducible refine gate_dst (N := 5) rfl ?_); (try (refine gate_guard (by rfl) ?_; dsimp only)); refine box_event ?hg (N := 5) ?hd (cs := #[.int .i64 0, .int .i64 0, .bool false, .bool false, .bool false, .bool false, .slice none 0 0]) (t := 43) ?hr ?_; (case hd => rfl); (case hg => rfl); (case hr => first | (go_simp; done) | (go_simp; rfl)); intro gb119 hg w23 hbox hb; have n0_ := Zma (Zza (rq HO107.out) hb); have n1_ := Zma (Kd.N_below (Kd.N_elderB (nq HO116.out) gb119 (Nat.le_of_eq hg.symm)) hb); have n2_ := Zma (Zoa bq hb); have n3_ := Zma (hbox); have n4_ := Zma ((by rw [hg]; exact (Zfa bq) : w.heap.size ≤ gb119)); have n5_ := Zma ((by rw [hg]; exact (Zfa bq) : w.heap.size ≤ gb119)); clear HO107 HO116 HB; have HO107 := n0_; have HO116 := n1_; have HB := n2_; have BK119 := n3_; have GW119 := n4_; have GE119 := n5_; clear n0_ n1_ n2_ n3_ n4_ n5_ hb hbox hg; obtain ⟨hcz24_0, hcz24_1, hcz24_2, hcz24_3, hcz24_4, hcz24_5, hcz24_6, hfz24_0, hfz24_1, hfz24_2, hfz24_3, hfz24_4, hfz24_5, hfz24_6⟩ := blk7 BK119.out; obtain ⟨Ao25, co25, eo25⟩ := Kd.N_slice HO116.out; subst eo25) | ((with_reducible refine gate_store (t := 43) (p := 5) rfl ?_); refine store_event (t := 43) (p := 5) (v := ?vo_w26) (w1 := (((((((w23.setCell ⟨gb119, 0, none⟩ (.int .i64 t108)).setCell ⟨gb119, 1, none⟩ (.int .i64 t109)).setCell ⟨gb119, 2, none⟩ (.bool t110)).setCell ⟨gb119, 3, none⟩ (.bool t111)).setCell ⟨gb119, 4, none⟩ (.bool t112)).setCell ⟨gb119, 5, none⟩ (.bool t113)).setCell ⟨gb119, 6, none⟩ (.slice Ao25 t114.length co25))) ?hg ?ho ?hn ?hr ?_; (case ho => rfl); (case hg => rfl); (case hn => rfl); (case hr => first | (go_simp; done) | (go_simp; rfl)); intro w26 hw; have n0_ : Aside0 (Kd.R (Kd.int .u8) 5 w26 w.heap.size (fun _ => True) (.slice Ao21 y105.length co21) y105) := ⟨(by rw [hw]; exact (by refine rq ?_; exact Kd.R_mono (Kd.R_far (p := ⟨gb119, 6, none⟩) (Kd.R_far (p := ⟨gb119, 5, none⟩) (Kd.R_far (p := ⟨gb119, 4, none⟩) (Kd.R_far (p := ⟨gb119, 3, none⟩) (Kd.R_far (p := ⟨gb119, 2, none⟩) (Kd.R_far (p := ⟨gb119, 1, none⟩) (Kd.R_far (p := ⟨gb119, 0, none⟩) (Kd.R_types HO107.out BK119.out (by decide)) (fun _ hk => hk.2) (.int .i64 t108)) (fun _ hk => hk.2) (.int .i64 t109)) (fun _ hk => hk.2) (.bool t110)) (fun _ hk => hk.2) (.bool t111)) (fun _ hk => hk.2) (.bool t112)) (fun _ hk => hk.2) (.bool t113)) (fun _ hk => hk.2) (.slice Ao25 t114.length co25)) (fun _ hk => trivial)))⟩; have n1_ : Aside0 (Kd.N (Kd.slice 5 (Kd.int .u8)) 28 w26 w.heap.size (fun k_ => some k_ ≠ (.slice Ao21 y105.length co21 : Value).ownBlock ∧ k_ ≠ gb119) (.slice Ao25 t114.length co25) t114) := ⟨(by rw [hw]; exact (by refine nq ?_; exact Kd.N_mono (Kd.N_far (p := ⟨gb119, 6, none⟩) (Kd.N_far (p := ⟨gb119, 5, none⟩) (Kd.N_far (p := ⟨gb119, 4, none⟩) (Kd.N_far (p := ⟨gb119, 3, none⟩) (Kd.N_far (p := ⟨gb119, 2, none⟩) (Kd.N_far (p := ⟨gb119, 1, none⟩) (Kd.N_far (p := ⟨gb119, 0, none⟩) (Kd.N_mono HO116.out (fun k_ hk => (⟨hk, hk.2⟩ : _ ∧ k_ ≠ gb119))) (fun _ hk => hk.2) (.int .i64 t108)) (fun _ hk => hk.2) (.int .i64 t109)) (fun _ hk => hk.2) (.bool t110)) (fun _ hk => hk.2) (.bool t111)) (fun _ hk => hk.2) (.bool t112)) (fun _ hk => hk.2) (.bool t113)) (fun _ hk => hk.2) (.slice Ao25 t114.length co25)) (fun _ hk => ⟨hk.1.1, hk.1.2⟩)))⟩; have n2_ : Aside0 (w26.heap[gb119]? = some (.cells #[.int .i64 t108, .int .i64 t109, .bool t110, .bool t111, .bool t112, .bool t113, .slice Ao25 t114.length co25] 43 (0, 0))) := ⟨(by rw [hw]; exact (by refine kq ?_; exact put7 (kq BK119.out)))⟩; have n3_ : Aside0 (Below w.heap.size w w26) := ⟨(by rw [hw]; exact bq)⟩; clear hw HO107 HO116 BK119 HB; have HO107 := n0_; have HO116 := n1_; have BK119 := n2_; have HB := n3_; clear n0_ n1_ n2_ n3_) | ((with_reducible refine gate_callee (f := 57) rfl ?_); refine goesL_ (some 50) rfl rfl Try.func57 (by kernel_rfl) rfl #[.slice A0 l0.length c0, .slice A1 l1.length c1] rfl (by (try simp only [Zdb, Zeb, Zfb]); first | done | rfl | (simp only [Zha, Zga]; rfl)) ?_; (with_reducible refine (psalteryref18_Read.calls _ _ l0 (fun k_ => k_ < w.heap.size) _ _ l1 t122 t123 t124 t125 t126 t127 t128 t131 t132 _ ?side1 ?side2 ?side3 A11.out).mono ?_); (case side1 => exact cq ((Kd.C_below HR0.out HB.out))); (case side2 => exact HC0.out); (case side3 => exact Kd.V_mk HC1.out (Kd.F_below (Kd.C_F (Kd.heap_int .u8) HR1.out) bq)); rintro e w27 ⟨v129, rfl, ho0, hb⟩; refine ⟨_, rfl, ?_⟩; have n0_ := Zma (Zza (rq HO107.out) hb); have n1_ := Zma (Kd.N_elder' (nq HO116.out) (Kd.N_base ho0) hb); have n2_ := Zma (Kd.N_lower (Kd.N_mono (ok' := fun k_ => some k_ ≠ (.slice Ao21 y105.length co21 : Value).ownBlock ∧ some k_ ≠ (.slice Ao25 t114.length co25 : Value).ownBlock ∧ k_ ≠ gb119) ho0 (fun k_ hk_ => ⟨Or.elim hk_ (fun hs_ => fun e_ => Nat.not_le.2 hs_ (Kd.R_base HO107.out k_ e_.symm)) (fun hn_ => (Kd.fresh' (Kd.R_lt (rq HO107.out)) k_ hn_)), Or.elim hk_ (fun hs_ => fun e_ => Nat.not_le.2 hs_ (Kd.N_base HO116.out k_ e_.symm)) (fun hn_ => (Kd.fresh' (Kd.N_lt (nq HO116.out)) k_ hn_)), Or.elim hk_ (fun hs_ => fun e_ => Nat.not_le.2 hs_ (by rw [e_]; exact GW119.out)) (fun hn_ => (Kd.freshB (g := gb119) (o := .cells #[.int .i64 t108, .int .i64 t109, .bool t110, .bool t111, .bool t112, .bool t113, .slice Ao25 t114.length co25] 43 (0, 0)) (kq BK119.out) k_ hn_))⟩)) (Zfa bq)); have n3_ := Zma (Zab (g := gb119) (o := .cells #[.int .i64 t108, .int .i64 t109, .bool t110, .bool t111, .bool t112, .bool t113, .slice Ao25 t114.length co25] 43 (0, 0)) (kq BK119.out) hb); have n4_ := Zma (Zoa bq hb); clear HO107 HO116 BK119 HB; have HO107 := n0_; have HO116 := n1_; have HO130 := n2_; have BK119 := n3_; have HB := n4_; clear n0_ n1_ n2_ n3_ n4_; (try clear hb); (try clear hb2); (try clear hk); (try clear hi); (try clear ho0)) | ((with_reducible refine gate_dst (N := 8) rfl ?_); (try (refine gate_guard (by rfl) ?_; dsimp only)); refine box_event ?hg (N := 8) ?hd (cs := #[.int .i64 0, .int .i64 0, .bool false, .bool false, .bool false, .bool false, .slice none 0 0]) (t := 50) ?hr ?_; (case hd => rfl); (case hg => rfl); (case hr => first | (go_simp; done) | (go_simp; rfl)); intro gb133 hg w28 hbox hb; have n0_ := Zma (Zza (rq HO107.out) hb); have n1_ := Zma (Kd.N_below (Kd.N_elderB (nq HO116.out) gb133 (Nat.le_of_eq hg.symm)) hb); have n2_ := Zma (Kd.N_below (Kd.N_elderB (nq HO130.out) gb133 (Nat.le_of_eq hg.symm)) hb); have n3_ := Zma (Zab (g := gb119) (o := .cells #[.int .i64 t108, .int .i64 t109, .bool t110, .bool t111, .bool t112, .bool t113, .slice Ao25 t114.length co25] 43 (0, 0)) (kq BK119.out) hb); have n4_ := Zma (Zoa bq hb); have n5_ := Zma (hbox); have n6_ := Zma ((by rw [hg]; exact (Zfa bq) : w.heap.size ≤ gb133)); have n7_ := Zma ((by rw [hg]; exact (Zfa bq) : w.heap.size ≤ gb133)); have n8_ := Zma ((by rw [hg]; exact Zka (blk_lt (g := gb119) (o := .cells #[.int .i64 t108, .int .i64 t109, .bool t110, .bool t111, .bool t112, .bool t113, .slice Ao25 t114.length co25] 43 (0, 0)) (kq BK119.out)) : gb119 ≠ gb133)); have n9_ := Zma ((by rw [hg]; exact Nat.ne_of_gt (blk_lt (g := gb119) (o := .cells #[.int .i64 t108, .int .i64 t109, .bool t110, .bool t111, .bool t112, .bool t113, .slice Ao25 t114.length co25] 43 (0, 0)) (kq BK119.out)) : gb133 ≠ gb119)); clear HO107 HO116 HO130 BK119 HB; have HO107 := n0_; have HO116 := n1_; have HO130 := n2_; have BK119 := n3_; have HB := n4_; have BK133 := n5_; have GW133 := n6_; have GE133 := n7_; have NB119_133 := n8_; have NB133_119 := n9_; clear n0_ n1_ n2_ n3_ n4_ n5_ n6_ n7_ n8_ n9_ hb hbox hg; have hnb29 := NB133_119.out; have hnc29 := NB119_133.out; obtain ⟨hcz30_0, hcz30_1, hcz30_2, hcz30_3, hcz30_4, hcz30_5, hcz30_6, hfz30_0, hfz30_1, hfz30_2, hfz30_3, hfz30_4, hfz30_5, hfz30_6⟩ := blk7 BK133.out; obtain ⟨Ao31, co31, eo31⟩ := Kd.N_slice HO130.out; subst eo31))
     have n0_ : Aside0 (Kd.R (Kd.int .u8) 5 (((((((w28.setCell ⟨gb133, 0, none⟩ (.int .i64 t122)).setCell ⟨gb133, 1, none⟩ (.int .i64 t123)).setCell ⟨gb133, 2, none⟩ (.bool t124)).setCell ⟨gb133, 3, none⟩ (.bool t125)).setCell ⟨gb133, 4, none⟩ (.bool t126)).setCell ⟨gb133, 5, none⟩ (.bool t127)).setCell ⟨gb133, 6, none⟩ (.slice Ao31 t128.length co31)) w.heap.size (fun _ => True) (.slice Ao21 y105.length co21) y105) := ⟨by refine rq ?_; exact Kd.R_mono (Kd.R_far (p := ⟨gb133, 6, none⟩) (Kd.R_far (p := ⟨gb133, 5, none⟩) (Kd.R_far (p := ⟨gb133, 4, none⟩) (Kd.R_far (p := ⟨gb133, 3, none⟩) (Kd.R_far (p := ⟨gb133, 2, none⟩) (Kd.R_far (p := ⟨gb133, 1, none⟩) (Kd.R_far (p := ⟨gb133, 0, none⟩) (Kd.R_types HO107.out BK133.out (by decide)) (fun _ hk => hk.2) (.int .i64 t122)) (fun _ hk => hk.2) (.int .i64 t123)) (fun _ hk => hk.2) (.bool t124)) (fun _ hk => hk.2) (.bool t125)) (fun _ hk => hk.2) (.bool t126)) (fun _ hk => hk.2) (.bool t127)) (fun _ hk => hk.2) (.slice Ao31 t128.length co31)) (fun _ hk => trivial)⟩
     have n1_ : Aside0 (Kd.N (Kd.slice 5 (Kd.int .u8)) 28 (((((((w28.setCell ⟨gb133, 0, none⟩ (.int .i64 t122)).setCell ⟨gb133, 1, none⟩ (.int .i64 t123)).setCell ⟨gb133, 2, none⟩ (.bool t124)).setCell ⟨gb133, 3, none⟩ (.bool t125)).setCell ⟨gb133, 4, none⟩ (.bool t126)).setCell ⟨gb133, 5, none⟩ (.bool t127)).setCell ⟨gb133, 6, none⟩ (.slice Ao31 t128.length co31)) w.heap.size (fun k_ => some k_ ≠ (.slice Ao21 y105.length co21 : Value).ownBlock ∧ some k_ ≠ (.slice Ao31 t128.length co31 : Value).ownBlock ∧ k_ ≠ gb119 ∧ k_ ≠ gb133) (.slice Ao25 t114.length co25) t114) := ⟨by refine nq ?_; exact Kd.N_mono (Kd.N_far (p := ⟨gb133, 6, none⟩) (Kd.N_far (p := ⟨gb133, 5, none⟩) (Kd.N_far (p := ⟨gb133, 4, none⟩) (Kd.N_far (p := ⟨gb133, 3, none⟩) (Kd.N_far (p := ⟨gb133, 2, none⟩) (Kd.N_far (p := ⟨gb133, 1, none⟩) (Kd.N_far (p := ⟨gb133, 0, none⟩) (Kd.N_mono HO116.out (fun k_ hk => (⟨hk, hk.2⟩ : _ ∧ k_ ≠ gb133))) (fun _ hk => hk.2) (.int .i64 t122)) (fun _ hk => hk.2) (.int .i64 t123)) (fun _ hk => hk.2) (.bool t124)) (fun _ hk => hk.2) (.bool t125)) (fun _ hk => hk.2) (.bool t126)) (fun _ hk => hk.2) (.bool t127)) (fun _ hk => hk.2) (.slice Ao31 t128.length co31)) (fun _ hk => ⟨hk.1.1.1.1, ⟨hk.1.1.2, ⟨hk.1.1.1.2, hk.1.2⟩⟩⟩)⟩
     have n2_ : Aside0 (Kd.N (Kd.slice 5 (Kd.int .u8)) 28 (((((((w28.setCell ⟨gb133, 0, none⟩ (.int .i64 t122)).setCell ⟨gb133, 1, none⟩ (.int .i64 t123)).setCell ⟨gb133, 2, none⟩ (.bool t124)).setCell ⟨gb133, 3, none⟩ (.bool t125)).setCell ⟨gb133, 4, none⟩ (.bool t126)).setCell ⟨gb133, 5, none⟩ (.bool t127)).setCell ⟨gb133, 6, none⟩ (.slice Ao31 t128.length co31)) w.heap.size (fun k_ => some k_ ≠ (.slice Ao21 y105.length co21 : Value).ownBlock ∧ some k_ ≠ (.slice Ao25 t114.length co25 : Value).ownBlock ∧ k_ ≠ gb119 ∧ k_ ≠ gb133) (.slice Ao31 t128.length co31) t128) := ⟨by refine nq ?_; exact Kd.N_mono (Kd.N_far (p := ⟨gb133, 6, none⟩) (Kd.N_far (p := ⟨gb133, 5, none⟩) (Kd.N_far (p := ⟨gb133, 4, none⟩) (Kd.N_far (p := ⟨gb133, 3, none⟩) (Kd.N_far (p := ⟨gb133, 2, none⟩) (Kd.N_far (p := ⟨gb133, 1, none⟩) (Kd.N_far (p := ⟨gb133, 0, none⟩) (Kd.N_mono HO130.out (fun k_ hk => (⟨hk, hk.2⟩ : _ ∧ k_ ≠ gb133))) (fun _ hk => hk.2) (.int .i64 t122)) (fun _ hk => hk.2) (.int .i64 t123)) (fun _ hk => hk.2) (.bool t124)) (fun _ hk => hk.2) (.bool t125)) (fun _ hk => hk.2) (.bool t126)) (fun _ hk => hk.2) (.bool t127)) (fun _ hk => hk.2) (.slice Ao31 t128.length co31)) (fun _ hk => ⟨hk.1.1.1, ⟨hk.1.1.2.1, ⟨hk.1.1.2.2, hk.1.2⟩⟩⟩)⟩
     have n3_ : Aside0 ((((((((w28.setCell ⟨gb133, 0, none⟩ (.int .i64 t122)).setCell ⟨gb133, 1, none⟩ (.int .i64 t123)).setCell ⟨gb133, 2, none⟩ (.bool t124)).setCell ⟨gb133, 3, none⟩ (.bool t125)).setCell ⟨gb133, 4, none⟩ (.bool t126)).setCell ⟨gb133, 5, none⟩ (.bool t127)).setCell ⟨gb133, 6, none⟩ (.slice Ao31 t128.length co31)).heap[gb119]? = some (.cells #[.int .i64 t108, .int .i64 t109, .bool t110, .bool t111, .bool t112, .bool t113, .slice Ao25 t114.length co25] 43 (0, 0))) := ⟨by refine kq ?_; refine Zua ?_ NB119_133.out _; refine kq ?_; refine Zua ?_ NB119_133.out _; refine kq ?_; refine Zua ?_ NB119_133.out _; refine kq ?_; refine Zua ?_ NB119_133.out _; refine kq ?_; refine Zua ?_ NB119_133.out _; refine kq ?_; refine Zua ?_ NB119_133.out _; refine kq ?_; refine Zua ?_ NB119_133.out _; refine kq ?_; exact BK119.out⟩
     have n4_ : Aside0 ((((((((w28.setCell ⟨gb133, 0, none⟩ (.int .i64 t122)).setCell ⟨gb133, 1, none⟩ (.int .i64 t123)).setCell ⟨gb133, 2, none⟩ (.bool t124)).setCell ⟨gb133, 3, none⟩ (.bool t125)).setCell ⟨gb133, 4, none⟩ (.bool t126)).setCell ⟨gb133, 5, none⟩ (.bool t127)).setCell ⟨gb133, 6, none⟩ (.slice Ao31 t128.length co31)).heap[gb133]? = some (.cells #[.int .i64 t122, .int .i64 t123, .bool t124, .bool t125, .bool t126, .bool t127, .slice Ao31 t128.length co31] 50 (0, 0))) := ⟨by refine kq ?_; exact put7 (kq BK133.out)⟩
     have n5_ : Aside0 (Below w.heap.size w (((((((w28.setCell ⟨gb133, 0, none⟩ (.int .i64 t122)).setCell ⟨gb133, 1, none⟩ (.int .i64 t123)).setCell ⟨gb133, 2, none⟩ (.bool t124)).setCell ⟨gb133, 3, none⟩ (.bool t125)).setCell ⟨gb133, 4, none⟩ (.bool t126)).setCell ⟨gb133, 5, none⟩ (.bool t127)).setCell ⟨gb133, 6, none⟩ (.slice Ao31 t128.length co31))) := ⟨bq⟩
     (try clear HO107)
     (try clear HO116)
     (try clear HO130)
     (try clear BK119)
     (try clear BK133)
     (try clear HB)
     generalize (((((((w28.setCell ⟨gb133, 0, none⟩ (.int .i64 t122)).setCell ⟨gb133, 1, none⟩ (.int .i64 t123)).setCell ⟨gb133, 2, none⟩ (.bool t124)).setCell ⟨gb133, 3, none⟩ (.bool t125)).setCell ⟨gb133, 4, none⟩ (.bool t126)).setCell ⟨gb133, 5, none⟩ (.bool t127)).setCell ⟨gb133, 6, none⟩ (.slice Ao31 t128.length co31)) = w32 at n0_ n1_ n2_ n3_ n4_ n5_ ⊢
     have HO107 := n0_; have HO116 := n1_; have HO130 := n2_; have BK119 := n3_; have BK133 := n4_; have HB := n5_; clear n0_ n1_ n2_ n3_ n4_ n5_
     have n0_ := Zma (Zq HO107.out)
     have n1_ := Zma (Zt HO116.out)
     have n2_ := Zma (Zt HO130.out)
     have n3_ := Zma (Zl BK119.out)
     have n4_ := Zma (Zl BK133.out)
     have n5_ := Zma (Zla HB.out)
     clear HO107 HO116 HO130 BK119 BK133 HB; have HO107 := n0_; have HO116 := n1_; have HO130 := n2_; have BK119 := n3_; have BK133 := n4_; have HB := n5_; clear n0_ n1_ n2_ n3_ n4_ n5_
     refine start_ (n := 18) (S := fun w' => w'.cell? ⟨gb119, 0, none⟩ = some (.int .i64 t108) ∧ w'.cell? ⟨gb119, 1, none⟩ = some (.int .i64 t109) ∧ w'.cell? ⟨gb119, 2, none⟩ = some (.bool t110) ∧ w'.cell? ⟨gb119, 3, none⟩ = some (.bool t111) ∧ w'.cell? ⟨gb119, 4, none⟩ = some (.bool t112) ∧ w'.cell? ⟨gb119, 5, none⟩ = some (.bool t113) ∧ w'.cell? ⟨gb119, 6, none⟩ = some (.slice Ao25 t114.length co25) ∧ w'.cell? ⟨gb133, 0, none⟩ = some (.int .i64 t122) ∧ w'.cell? ⟨gb133, 1, none⟩ = some (.int .i64 t123) ∧ w'.cell? ⟨gb133, 2, none⟩ = some (.bool t124) ∧ w'.cell? ⟨gb133, 3, none⟩ = some (.bool t125) ∧ w'.cell? ⟨gb133, 4, none⟩ = some (.bool t126) ∧ w'.cell? ⟨gb133, 5, none⟩ = some (.bool t127) ∧ w'.cell? ⟨gb133, 6, none⟩ = some (.slice Ao31 t128.length co31)) (ds := []) #[ZF,ZF,ZF,ZF,ZF,ZF,ZF,ZF,ZF,ZF,ZF,ZF,ZF,ZF,ZF,ZF,ZF,ZF] (by kernel_rfl) rfl rfl ⟨(Zd BK119.out 0).trans rfl, (Zd BK119.out 1).trans rfl, (Zd BK119.out 2).trans rfl, (Zd BK119.out 3).trans rfl, (Zd BK119.out 4).trans rfl, (Zd BK119.out 5).trans rfl, (Zd BK119.out 6).trans rfl, (Zd BK133.out 0).trans rfl, (Zd BK133.out 1).trans rfl, (Zd BK133.out 2).trans rfl, (Zd BK133.out 3).trans rfl, (Zd BK133.out 4).trans rfl, (Zd BK133.out 5).trans rfl, (Zd BK133.out 6).trans rfl⟩ (fun hHeld => ?_); refine with_tabW psalterylaw18_PageReads.tab7 psalterylaw18_PageReads.bits7 (fun HT_ HW_ => ?_)
     generalize w32.drew = w33 at HO107 HO116 HO130 BK119 BK133 HB hHeld ⊢
     refine take_ (i := 0) (N := some 54) (v := ?_) (a' := ?_) #[ZT,ZF,ZF,ZF,ZF,ZF,ZF,ZF,ZF,ZF,ZF,ZF,ZF,ZF,ZF,ZF,ZF,ZF] rfl rfl (take_ofW HT_.out HW_.out (by kernel_rfl)) (fun _ _ _ h => h) (Or.inl ⟨by rfl, ?_⟩) hHeld ?_ ?_
     rotate_left
     ·rintro w' ⟨s0, s1, s2, s3, s4, s5, s6, s7, s8, s9, s10, s11, s12, s13⟩
      go_simp
      with_reducible rfl
     rotate_left
     ·simp only [Act.put, Za, Zb, Zc, i64_w, i32_w]
      rfl
     refine take_ (i := 2) (N := some 56) (v := ?_) (a' := ?_) #[ZT,ZF,ZT,ZF,ZF,ZF,ZF,ZF,ZF,ZF,ZF,ZF,ZF,ZF,ZF,ZF,ZF,ZF] rfl rfl (take_ofW HT_.out HW_.out (by kernel_rfl)) (fun _ _ _ h => h) (Or.inl ⟨by rfl, ?_⟩) hHeld ?_ ?_
     rotate_left
     ·rintro w' ⟨s0, s1, s2, s3, s4, s5, s6, s7, s8, s9, s10, s11, s12, s13⟩
      go_simp
      with_reducible rfl
     rotate_left
     ·simp only [Act.put, Za, Zb, Zc, i64_w, i32_w]
      rfl
     refine o1 HT_ 1 (some 55) (fun K hK => ?_)
     refine goes_ Try.func37 (by kernel_rfl) rfl #[.agg #[.int .i64 t108, .int .i64 t109, .bool t110, .bool t111, .bool t112, .bool t113, .slice Ao25 t114.length co25]] (by rfl) rfl rfl (by (try simp only [Zdb, Zeb, Zfb]); first | done | rfl | (simp only [Zha, Zga]; rfl)) ?_
     with_reducible refine (psalterylaw18_As.calls t108 t109 t110 t111 t112 t113 _ _ t114  _ ?side1 ?side2 A12.out).mono ?_
     (case side1 => exact cq ((Zlb HO116.out).2.2))
     (case side2 => exact (Zlb HO116.out).2.1)
     rintro e w34 ⟨rfl, hb⟩
     refine ⟨_, rfl, ?_⟩
     have n0_ := Zma (Zza (rq HO107.out) hb)
     have n1_ := Zma (Kd.N_below (nq HO116.out) hb)
     have n2_ := Zma (Kd.N_below (nq HO130.out) hb)
     have n3_ := Zma (Zab (g := gb119) (o := .cells #[.int .i64 t108, .int .i64 t109, .bool t110, .bool t111, .bool t112, .bool t113, .slice Ao25 t114.length co25] 43 (0, 0)) (kq BK119.out) hb)
     have n4_ := Zma (Zab (g := gb133) (o := .cells #[.int .i64 t122, .int .i64 t123, .bool t124, .bool t125, .bool t126, .bool t127, .slice Ao31 t128.length co31] 50 (0, 0)) (kq BK133.out) hb)
     have n5_ := Zma (Zoa bq hb)
     clear HO107 HO116 HO130 BK119 BK133 HB; have HO107 := n0_; have HO116 := n1_; have HO130 := n2_; have BK119 := n3_; have BK133 := n4_; have HB := n5_; clear n0_ n1_ n2_ n3_ n4_ n5_
     (try clear hb)
     refine hK.out _ _ ⟨(Zd BK119.out 0).trans rfl, (Zd BK119.out 1).trans rfl, (Zd BK119.out 2).trans rfl, (Zd BK119.out 3).trans rfl, (Zd BK119.out 4).trans rfl, (Zd BK119.out 5).trans rfl, (Zd BK119.out 6).trans rfl, (Zd BK133.out 0).trans rfl, (Zd BK133.out 1).trans rfl, (Zd BK133.out 2).trans rfl, (Zd BK133.out 3).trans rfl, (Zd BK133.out 4).trans rfl, (Zd BK133.out 5).trans rfl, (Zd BK133.out 6).trans rfl⟩ (fun hHeld => ?_)
     clear hK K
     refine n1 55 ?_
     refine o1 HT_ 3 (some 57) (fun K hK => ?_)
     refine goes_ Try.func36 (by kernel_rfl) rfl #[.agg #[.int .i64 t108, .int .i64 t109, .bool t110, .bool t111, .bool t112, .bool t113, .slice Ao25 t114.length co25], .agg #[.int .i64 t122, .int .i64 t123, .bool t124, .bool t125, .bool t126, .bool t127, .slice Ao31 t128.length co31]] (by rfl) rfl rfl (by (try simp only [Zdb, Zeb, Zfb]); first | done | rfl | (simp only [Zha, Zga]; rfl)) ?_
     with_reducible refine (psalteryref18_Same.calls t108 t109 t110 t111 t112 t113 _ _ t114 t122 t123 t124 t125 t126 t127 _ _ t128 true _ ?side1 ?side2 ?side3 ?side4 A13.out).mono ?_
     (case side1 => exact cq ((Zlb HO116.out).2.2))
     (case side2 => exact (Zlb HO116.out).2.1)
     (case side3 => exact cq ((Zlb HO130.out).2.2))
     (case side4 => exact (Zlb HO130.out).2.1)
     rintro e w35 ⟨rfl, hb⟩
     refine ⟨_, rfl, ?_⟩
     have n0_ := Zma (Zza (rq HO107.out) hb)
     have n1_ := Zma (Kd.N_below (nq HO116.out) hb)
     have n2_ := Zma (Kd.N_below (nq HO130.out) hb)
     have n3_ := Zma (Zab (g := gb119) (o := .cells #[.int .i64 t108, .int .i64 t109, .bool t110, .bool t111, .bool t112, .bool t113, .slice Ao25 t114.length co25] 43 (0, 0)) (kq BK119.out) hb)
     have n4_ := Zma (Zab (g := gb133) (o := .cells #[.int .i64 t122, .int .i64 t123, .bool t124, .bool t125, .bool t126, .bool t127, .slice Ao31 t128.length co31] 50 (0, 0)) (kq BK133.out) hb)
     have n5_ := Zma (Zoa bq hb)
     clear HO107 HO116 HO130 BK119 BK133 HB; have HO107 := n0_; have HO116 := n1_; have HO130 := n2_; have BK119 := n3_; have BK133 := n4_; have HB := n5_; clear n0_ n1_ n2_ n3_ n4_ n5_
     (try clear hb)
     refine hK.out _ _ ⟨(Zd BK119.out 0).trans rfl, (Zd BK119.out 1).trans rfl, (Zd BK119.out 2).trans rfl, (Zd BK119.out 3).trans rfl, (Zd BK119.out 4).trans rfl, (Zd BK119.out 5).trans rfl, (Zd BK119.out 6).trans rfl, (Zd BK133.out 0).trans rfl, (Zd BK133.out 1).trans rfl, (Zd BK133.out 2).trans rfl, (Zd BK133.out 3).trans rfl, (Zd BK133.out 4).trans rfl, (Zd BK133.out 5).trans rfl, (Zd BK133.out 6).trans rfl⟩ (fun hHeld => ?_)
     clear hK K
     refine n1 57 ?_
     refine p1 HT_ 4 58 ?_
     refine p1 HT_ 5 59 ?_
     refine p1 HT_ 6 60 ?_
     refine p1 HT_ 7 61 ?_
     refine p1 HT_ 8 62 ?_
     refine p1 HT_ 9 63 ?_
     refine p1 HT_ 10 64 ?_
     refine p1 HT_ 11 65 ?_
     refine p1 HT_ 12 66 ?_
     refine p1 HT_ 13 67 ?_
     refine p1 HT_ 14 68 ?_
     refine o1 HT_ 15 (some 69) (fun K hK => ?_)
     refine goes_ Try.func33 (by kernel_rfl) rfl #[] (by rfl) rfl rfl (by (try simp only [Zdb, Zeb, Zfb]); first | done | rfl | (simp only [Zha, Zga]; rfl)) ?_
     with_reducible refine (psalterylaw18_knows.calls  true _ A17.out).mono ?_
     rintro e w36 ⟨rfl, hb⟩
     refine ⟨_, rfl, ?_⟩
     have n0_ := Zma (Zza (rq HO107.out) hb)
     have n1_ := Zma (Kd.N_below (nq HO116.out) hb)
     have n2_ := Zma (Kd.N_below (nq HO130.out) hb)
     have n3_ := Zma (Zab (g := gb119) (o := .cells #[.int .i64 t108, .int .i64 t109, .bool t110, .bool t111, .bool t112, .bool t113, .slice Ao25 t114.length co25] 43 (0, 0)) (kq BK119.out) hb)
     have n4_ := Zma (Zab (g := gb133) (o := .cells #[.int .i64 t122, .int .i64 t123, .bool t124, .bool t125, .bool t126, .bool t127, .slice Ao31 t128.length co31] 50 (0, 0)) (kq BK133.out) hb)
     have n5_ := Zma (Zoa bq hb)
     clear HO107 HO116 HO130 BK119 BK133 HB; have HO107 := n0_; have HO116 := n1_; have HO130 := n2_; have BK119 := n3_; have BK133 := n4_; have HB := n5_; clear n0_ n1_ n2_ n3_ n4_ n5_
     (try clear hb)
     refine hK.out _ _ ⟨(Zd BK119.out 0).trans rfl, (Zd BK119.out 1).trans rfl, (Zd BK119.out 2).trans rfl, (Zd BK119.out 3).trans rfl, (Zd BK119.out 4).trans rfl, (Zd BK119.out 5).trans rfl, (Zd BK119.out 6).trans rfl, (Zd BK133.out 0).trans rfl, (Zd BK133.out 1).trans rfl, (Zd BK133.out 2).trans rfl, (Zd BK133.out 3).trans rfl, (Zd BK133.out 4).trans rfl, (Zd BK133.out 5).trans rfl, (Zd BK133.out 6).trans rfl⟩ (fun hHeld => ?_)
     clear hK K
     refine n1 69 ?_
     refine p1 HT_ 16 70 ?_
     refine p1 HT_ 17 4 ?_
     refine done_ (done_of HT_.out (by kernel_rfl)) ?_
     try go_wp2
     go_ret
     exact ⟨by first | rfl | (simp [errW_none, errW_some] <;> rfl) | (simp [*, errW_none, errW_some] <;> rfl), bq⟩
    replace c14 := Bool.eq_false_iff.mpr c14
    subst c14
    have H1 : (some false) = some true := by rw [if_neg (show ¬ (false = true) by decide)] at H; exact H
    exact absurd H1 (by simp)
   rw [if_neg c10] at H
   have c10b0 : ((l0.length : Int) == 256) = false := beq_eq_false_iff_ne.mpr c10
   have c10b1 : ((l0.length : Int) != 256) = true := bne_iff_ne.mpr c10
   replace H := Option.bind_eq_some_iff.mp H
   obtain ⟨_, A910, H⟩ := H
   replace H : ((psalteryref18_Same.f t108 t109 t110 t111 t112 t113 t114 0 0 false false false false ([] : List (List Int))).bind fun t120 => (if t120 = true then (if t117 = 0 then (if t118 = 1 then ((psalterylaw18_knows.f).bind fun t121 => (some t121)) else (some false)) else (some false)) else (some false))) = some true := H
   have A91 := Zma A910
   clear A910
   replace H := Option.bind_eq_some_iff.mp H
   obtain ⟨t120, A920, H⟩ := H
   replace H : (if t120 = true then (if t117 = 0 then (if t118 = 1 then ((psalterylaw18_knows.f).bind fun t121 => (some t121)) else (some false)) else (some false)) else (some false)) = some true := H
   have A92 := Zma A920
   clear A920
   by_cases c93 : t120 = true
   ·subst c93
    have H1 : (if t117 = 0 then (if t118 = 1 then ((psalterylaw18_knows.f).bind fun t121 => (some t121)) else (some false)) else (some false)) = some true := by rw [if_pos rfl] at H; exact H
    clear H
    have H := H1
    clear H1
    by_cases c94 : t117 = 0
    rotate_left
    ·rw [if_neg c94] at H
     exact absurd H (by simp)
    rw [if_pos c94] at H
    have c94b0 : (t117 == 0) = true := beq_iff_eq.mpr c94
    have c94b1 : (t117 != 0) = false := bne_eq_false_iff_eq.mpr c94
    clear c94
    by_cases c95 : t118 = 1
    rotate_left
    ·rw [if_neg c95] at H
     exact absurd H (by simp)
    rw [if_pos c95] at H
    have c95b0 : (t118 == 1) = true := beq_iff_eq.mpr c95
    have c95b1 : (t118 != 1) = false := bne_eq_false_iff_eq.mpr c95
    clear c95
    replace H := Option.bind_eq_some_iff.mp H
    obtain ⟨t121, A960, H⟩ := H
    replace H : (some t121) = some true := H
    have A96 := Zma A960
    clear A960
    obtain rfl := Zgb H
    go_wp2_with (first | ((with_reducible refine gate_dst (N := 22) rfl ?_); (try (refine gate_guard (by rfl) ?_; dsimp only)); refine Kd.R_lit (Kd.int .u8) _ 5 ?hg (N := 22) ?hd (xs := ([] : List Int)) (inner := []) (ok := fun _ => True) (okp := fun _ => True) ?hr ?hp (fun _ hk => hk) trivial (Below.refl _ _) (Zra _) (by simp) ?_; (case hd => rfl); (case hg => rfl); (case hr => first | (go_simp; done) | (go_simp; rfl)); (case hp => exact (Reps.none _ _)); intro v103 w97 ho98 hb hg_ hnew_; clear hg_ hnew_; (first | rw [← Ny102.out] at ho98 | (simp only [Int.reduceToNat] at ho98; rw [← Ny102.out] at ho98)); have n0_ := Zma (Zxa ho98 (Zfa bq)); have n1_ := Zma (Zoa bq hb); clear HB; have HO104 := n0_; have HB := n1_; clear n0_ n1_ hb ho98) | ((with_reducible refine gate_builtin (b := .append) (xs := #[.tmp 22, .tmp 23]) rfl ?_); (try (refine gate_guard (by rfl) ?_; dsimp only)); at_builtin; refine Kd.R_append_rows (Kd.int .u8) (w0 := w) w.heap.size rfl (.tmp 22) (.tmp 23) 28 5 (.int .u8 0) 1 rfl Try.underlying28 info5 rfl (by decide) (by omega) v103 y102 l1 _ _ _ (fun _ => True) (fun _ => False) rfl rfl ?aO ?aR (fun _ _ h => h) (fun _ h => h.elim) ?aF ?aB ?aS ?aL ?_; (case aR => exact cq ((Kd.C_below HR1.out HB.out))); (case aB => exact bq); (case aF => exact (fun _ _ => trivial)); (case aO => exact (rq HO104.out)); (case aS => exact (Zfa bq)); (case aL => have := LMc8.out; omega); intro v106 w99 ho hb hg hat; rw [← Ny105.out] at ho; have n0_ := Zma (hb); have n1_ := Zma (ho); clear HB HO104; have HB := n0_; have HO107 := n1_; clear n0_ n1_ ho hb hg hat; obtain ⟨Ao100, co100, eo100⟩ := Kd.R_slice HO107.out; subst eo100) | ((with_reducible refine gate_callee (f := 35) rfl ?_); refine goesL_ (some 25) rfl rfl Try.func35 (by kernel_rfl) rfl #[.slice A0 l0.length c0, .slice Ao100 y105.length co100] rfl (by (try simp only [Zdb, Zeb, Zfb]); first | done | rfl | (simp only [Zha, Zga]; rfl)) ?_; (with_reducible refine (page_Read.calls _ _ l0 _ _ y105 t108 t109 t110 t111 t112 t113 t114 t117 t118 _ ?side1 ?side2 ?side3 ?side4 A9.out).mono ?_); (case side1 => exact cq ((Kd.C_below HR0.out HB.out))); (case side2 => exact HC0.out); (case side3 => exact cq ((Zkb HO107.out).2.2)); (case side4 => exact (Zkb HO107.out).2.1); rintro e w101 ⟨v115, rfl, ho0, hb⟩; refine ⟨_, rfl, ?_⟩; have n0_ := Zma (Zza (rq HO107.out) hb); have n1_ := Zma (Kd.N_lower (Kd.N_mono (ok' := fun k_ => some k_ ≠ (.slice Ao100 y105.length co100 : Value).ownBlock) (Kd.S_N (Kd.S_bound ho0)) (fun k_ hk_ => (Kd.fresh' (Kd.R_lt (rq HO107.out)) k_ hk_.2.1))) (Zfa bq)); have n2_ := Zma (Zoa bq hb); clear HO107 HB; have HO107 := n0_; have HO116 := n1_; have HB := n2_; clear n0_ n1_ n2_; (try clear hb); (try clear hb2); (try clear hk); (try clear hi); (try clear ho0)) | ((with_reducible refine gate_dst (N := 5) rfl ?_); (try (refine gate_guard (by rfl) ?_; dsimp only)); refine box_event ?hg (N := 5) ?hd (cs := #[.int .i64 0, .int .i64 0, .bool false, .bool false, .bool false, .bool false, .slice none 0 0]) (t := 43) ?hr ?_; (case hd => rfl); (case hg => rfl); (case hr => first | (go_simp; done) | (go_simp; rfl)); intro gb119 hg w102 hbox hb; have n0_ := Zma (Zza (rq HO107.out) hb); have n1_ := Zma (Kd.N_below (Kd.N_elderB (nq HO116.out) gb119 (Nat.le_of_eq hg.symm)) hb); have n2_ := Zma (Zoa bq hb); have n3_ := Zma (hbox); have n4_ := Zma ((by rw [hg]; exact (Zfa bq) : w.heap.size ≤ gb119)); have n5_ := Zma ((by rw [hg]; exact (Zfa bq) : w.heap.size ≤ gb119)); clear HO107 HO116 HB; have HO107 := n0_; have HO116 := n1_; have HB := n2_; have BK119 := n3_; have GW119 := n4_; have GE119 := n5_; clear n0_ n1_ n2_ n3_ n4_ n5_ hb hbox hg; obtain ⟨hcz103_0, hcz103_1, hcz103_2, hcz103_3, hcz103_4, hcz103_5, hcz103_6, hfz103_0, hfz103_1, hfz103_2, hfz103_3, hfz103_4, hfz103_5, hfz103_6⟩ := blk7 BK119.out; obtain ⟨Ao104, co104, eo104⟩ := Kd.N_slice HO116.out; subst eo104) | ((with_reducible refine gate_callee (f := 37) rfl ?_); refine goesL_ (some 33) rfl rfl Try.func37 (by kernel_rfl) rfl #[.agg #[.int .i64 t108, .int .i64 t109, .bool t110, .bool t111, .bool t112, .bool t113, .slice Ao104 t114.length co104]] rfl (by (try simp only [Zdb, Zeb, Zfb]); first | done | rfl | (simp only [Zha, Zga]; rfl)) ?_; (with_reducible refine (psalterylaw18_As.calls t108 t109 t110 t111 t112 t113 _ _ t114  _ ?side1 ?side2 A91.out).mono ?_); (case side1 => refine (Zlb (e := 28) (base := w.heap.size) (ok := fun k_ => (some k_ ≠ (.slice Ao100 y105.length co100 : Value).ownBlock ∧ k_ ≠ gb119)) (n := t114.length) (c := co104) ?_).2.2; exact (by refine nq ?_; exact (Kd.N_mono (Kd.N_far (p := ⟨gb119, 6, none⟩) (Kd.N_far (p := ⟨gb119, 5, none⟩) (Kd.N_far (p := ⟨gb119, 4, none⟩) (Kd.N_far (p := ⟨gb119, 3, none⟩) (Kd.N_far (p := ⟨gb119, 2, none⟩) (Kd.N_far (p := ⟨gb119, 1, none⟩) (Kd.N_far (p := ⟨gb119, 0, none⟩) (Kd.N_mono HO116.out (fun k_ hk => (⟨hk, hk.2⟩ : _ ∧ k_ ≠ gb119))) (fun _ hk => hk.2) (.int .i64 t108)) (fun _ hk => hk.2) (.int .i64 t109)) (fun _ hk => hk.2) (.bool t110)) (fun _ hk => hk.2) (.bool t111)) (fun _ hk => hk.2) (.bool t112)) (fun _ hk => hk.2) (.bool t113)) (fun _ hk => hk.2) (.slice Ao104 t114.length co104)) (fun _ h_ => h_.1)))); (case side2 => exact (Zlb HO116.out).2.1); rintro e w105 ⟨rfl, hb⟩; refine ⟨_, rfl, ?_⟩; have n0_ := Zma (Zza (by refine rq ?_; exact (Kd.R_mono (Kd.R_far (p := ⟨gb119, 6, none⟩) (Kd.R_far (p := ⟨gb119, 5, none⟩) (Kd.R_far (p := ⟨gb119, 4, none⟩) (Kd.R_far (p := ⟨gb119, 3, none⟩) (Kd.R_far (p := ⟨gb119, 2, none⟩) (Kd.R_far (p := ⟨gb119, 1, none⟩) (Kd.R_far (p := ⟨gb119, 0, none⟩) (Kd.R_types HO107.out BK119.out (by decide)) (fun _ hk => hk.2) (.int .i64 t108)) (fun _ hk => hk.2) (.int .i64 t109)) (fun _ hk => hk.2) (.bool t110)) (fun _ hk => hk.2) (.bool t111)) (fun _ hk => hk.2) (.bool t112)) (fun _ hk => hk.2) (.bool t113)) (fun _ hk => hk.2) (.slice Ao104 t114.length co104)) (fun _ h_ => h_.1))) hb); have n1_ := Zma (Kd.N_below (by refine nq ?_; exact (Kd.N_mono (Kd.N_far (p := ⟨gb119, 6, none⟩) (Kd.N_far (p := ⟨gb119, 5, none⟩) (Kd.N_far (p := ⟨gb119, 4, none⟩) (Kd.N_far (p := ⟨gb119, 3, none⟩) (Kd.N_far (p := ⟨gb119, 2, none⟩) (Kd.N_far (p := ⟨gb119, 1, none⟩) (Kd.N_far (p := ⟨gb119, 0, none⟩) (Kd.N_mono HO116.out (fun k_ hk => (⟨hk, hk.2⟩ : _ ∧ k_ ≠ gb119))) (fun _ hk => hk.2) (.int .i64 t108)) (fun _ hk => hk.2) (.int .i64 t109)) (fun _ hk => hk.2) (.bool t110)) (fun _ hk => hk.2) (.bool t111)) (fun _ hk => hk.2) (.bool t112)) (fun _ hk => hk.2) (.bool t113)) (fun _ hk => hk.2) (.slice Ao104 t114.length co104)) (fun _ h_ => h_.1))) hb); have n2_ := Zma (Zab (g := gb119) (o := .cells #[.int .i64 t108, .int .i64 t109, .bool t110, .bool t111, .bool t112, .bool t113, .slice Ao104 t114.length co104] 43 (0, 0)) (by refine kq ?_; exact put7 (kq BK119.out)) hb); have n3_ := Zma (Zoa bq hb); clear HO107 HO116 BK119 HB; have HO107 := n0_; have HO116 := n1_; have BK119 := n2_; have HB := n3_; clear n0_ n1_ n2_ n3_; (try clear hb); (try clear hb2); (try clear hk); (try clear hi)) | ((with_reducible refine gate_callee (f := 36) rfl ?_); refine goesL_ (some 35) rfl rfl Try.func36 (by kernel_rfl) rfl #[.agg #[.int .i64 t108, .int .i64 t109, .bool t110, .bool t111, .bool t112, .bool t113, .slice Ao104 t114.length co104], .agg #[.int .i64 0, .int .i64 0, .bool false, .bool false, .bool false, .bool false, .slice none 0 0]] rfl (by (try simp only [Zdb, Zeb, Zfb]); first | done | rfl | (simp only [Zha, Zga]; rfl)) ?_; (refine (psalteryref18_Same.calls t108 t109 t110 t111 t112 t113 _ _ t114 0 0 false false false false _ _ ([] : List (List Int)) true _ ?side1 ?side2 ?side3 ?side4 A92.out).mono ?_); (case side1 => exact cq ((Zlb HO116.out).2.2)); (case side2 => exact (Zlb HO116.out).2.1); (case side3 => exact Kd.C_nil _ _); (case side4 => exact Zra _); rintro e w106 ⟨rfl, hb⟩; refine ⟨_, rfl, ?_⟩; have n0_ := Zma (Zza (rq HO107.out) hb); have n1_ := Zma (Kd.N_below (nq HO116.out) hb); have n2_ := Zma (Zab (g := gb119) (o := .cells #[.int .i64 t108, .int .i64 t109, .bool t110, .bool t111, .bool t112, .bool t113, .slice Ao104 t114.length co104] 43 (0, 0)) (kq BK119.out) hb); have n3_ := Zma (Zoa bq hb); clear HO107 HO116 BK119 HB; have HO107 := n0_; have HO116 := n1_; have BK119 := n2_; have HB := n3_; clear n0_ n1_ n2_ n3_; (try clear hb); (try clear hb2); (try clear hk); (try clear hi)) | (go_at_call 33; (with_reducible refine (psalterylaw18_knows.calls  true _ A96.out).mono ?_); rintro e w107 ⟨rfl, hb⟩; have n0_ := Zma (Zza (rq HO107.out) hb); have n1_ := Zma (Kd.N_below (nq HO116.out) hb); have n2_ := Zma (Zab (g := gb119) (o := .cells #[.int .i64 t108, .int .i64 t109, .bool t110, .bool t111, .bool t112, .bool t113, .slice Ao104 t114.length co104] 43 (0, 0)) (kq BK119.out) hb); have n3_ := Zma (Zoa bq hb); clear HO107 HO116 BK119 HB; have HO107 := n0_; have HO116 := n1_; have BK119 := n2_; have HB := n3_; clear n0_ n1_ n2_ n3_; (try clear hb); (try clear hb2); (try clear hk); (try clear hi)))
    go_ret
    exact ⟨by first | rfl | (simp [errW_none, errW_some] <;> rfl) | (simp [*, errW_none, errW_some] <;> rfl), bq⟩
   replace c93 := Bool.eq_false_iff.mpr c93
   subst c93
   have H1 : (some false) = some true := by rw [if_neg (show ¬ (false = true) by decide)] at H; exact H
   exact absurd H1 (by simp)

/-- THE ONE PURE STATEMENT of psalterylaw18_PageReads: yours. -/
def psalterylaw18_PageReads.Pure : Prop := ∀ (l0 : List Int) (l1 : List Int), l0.length ≤ maxLen → l0.length * 4 ≤ 140737488351232 → (∀ x ∈ l0, (Lit.int .u32 x).wf = true) → l1.length ≤ maxLen → l1.length * 1 ≤ 140737488351232 → (∀ x ∈ l1, (Lit.int .u8 x).wf = true) → ∃ k, psalterylaw18_PageReads.f k l0 l1 = some true
theorem psalterylaw18_PageReads.walk (P : psalterylaw18_PageReads.Pure) (a0 : Option Addr) (len0 cap0 : Nat) (z0 : List Int) (a1 : Option Addr) (len1 cap1 : Nat) (z1 : List Int) (w : World) (w0 : (a0 = none ∧ len0 = 0 ∧ cap0 = 0 ∧ z0 = []) ∨ ∃ x, a0 = some x ∧ len0 ≤ cap0 ∧ cap0 ≤ maxLen ∧ z0.length = cap0 ∧ (∀ i, i < z0.length → w.cell? (x.add i) = some (.int .u32 (z0.getD i 0))) ∧ ∀ n ∈ z0, (Lit.int .u32 n).wf = true) (y0 : len0 * 4 ≤ 140737488351232) (w1 : (a1 = none ∧ len1 = 0 ∧ cap1 = 0 ∧ z1 = []) ∨ ∃ x, a1 = some x ∧ len1 ≤ cap1 ∧ cap1 ≤ maxLen ∧ z1.length = cap1 ∧ (∀ i, i < z1.length → w.cell? (x.add i) = some (.int .u8 (z1.getD i 0))) ∧ ∀ n ∈ z1, (Lit.int .u8 n).wf = true) (y1 : len1 * 1 ≤ 140737488351232) :
  Calls Try.prog 19 #[.slice a0 len0 cap0, .slice a1 len1 cap1] w fun e w' => e = .returned (.bool true) ∧ Below w.heap.size w w' := by
 obtain ⟨l0, rfl, hr0, hm0, hw0, hc0⟩ := ReadsInt.ofRowC w0
 obtain ⟨l1, rfl, hr1, hm1, hw1, hc1⟩ := ReadsInt.ofRowC w1
 obtain ⟨k, h⟩ := P l0 l1 hm0 y0 hw0 hm1 y1 hw1
 refine (psalterylaw18_PageReads.calls k _ _ l0 _ _ l1 w (Kd.C_of_reads (d := (0 : Int)) (h1 := fun _ => rfl) hr0) hc0 (Kd.C_of_reads (d := (0 : Int)) (h1 := fun _ => rfl) hr1) hc1 h).mono ?_
 rintro e w' ⟨rfl, hd⟩
 exact ⟨rfl, hd⟩

end Go.Proofs.Yteoclecadpapfaa.G
