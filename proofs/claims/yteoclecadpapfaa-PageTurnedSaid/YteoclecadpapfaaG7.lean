/- What a call of psaltery/psalterylaw18.PageTurned does, told by a plain Lean function of its arguments. Written by a program for this claim. -/
import Derived.Test.YteoclecadpapfaaG0
import Derived.Test.YteoclecadpapfaaG22
import Derived.Test.YteoclecadpapfaaG32
import Derived.Test.YteoclecadpapfaaG33
import Derived.Test.YteoclecadpapfaaG34
import Derived.Test.YteoclecadpapfaaG35
import Derived.Test.YteoclecadpapfaaG36
import Derived.Test.YteoclecadpapfaaG37
namespace Go.Proofs.Yteoclecadpapfaa.G
open Go.RowKit Go.Proofs.YteoclecadpapfaaW.PrintWords Go.Proofs.YteoclecadpapfaaW.PrintLast Go.Proofs.YteoclecadpapfaaW.PrintMore
attribute [local go_sem] max2_int min2_int max_two min_two max_three min_three max_four min_four
set_option linter.unusedVariables false
set_option linter.unusedSimpArgs false

/-! ### psalterylaw18_PageTurned: function 7 -/
mutual
def psalterylaw18_PageTurned.j0 : Nat → Int → Int → List Int → List Int → Int → Bool → Option (Bool)
 | 0, _, _, _, _, _, _ => none
 | k + 1, x1, x2, x7, x8, x9, x34 => if x34 = true then (if x9 = 0 then (some false) else ((psalterylaw18_knows.f).bind fun t111 => (some t111))) else (if 21 < (x8.length : Int) then (if (wrap64 (22 + (wrap64 (rd x8 21)))) ≥ (x8.length : Int) then ((psalterylaw18_knows.f).bind fun t113 => (some t113)) else (if (IntKind.u64.wrap (wrap64 (8 * (wrap64 ((x8.length : Int) - (wrap64 (22 + (wrap64 (rd x8 21))))))))) = 0 then (none) else (psalterylaw18_PageTurned.l0 k x2 x7 x8 (wrap64 (22 + (wrap64 (rd x8 21)))) (wrap64 (Int.tmod (IntKind.u64.wrap (x1)) (IntKind.u64.wrap (wrap64 (8 * (wrap64 ((x8.length : Int) - (wrap64 (22 + (wrap64 (rd x8 21))))))))))) false 0))) else (none))
def psalterylaw18_PageTurned.l0 : Nat → Int → List Int → List Int → Int → Int → Bool → Int → Option (Bool)
 | 0, _, _, _, _, _, _, _ => none
 | k + 1, x2, x7, x8, x10, x11, x12, x13 => if x13 < 32 then (psalterylaw18_PageTurned.j2 k x2 x7 x8 x10 x11 x12 x13 (decide ((wrap64 (x11 + x13)) < (wrap64 (8 * (wrap64 ((x8.length : Int) - x10))))))) else (psalterylaw18_PageTurned.j2 k x2 x7 x8 x10 x11 x12 x13 false)
def psalterylaw18_PageTurned.j2 : Nat → Int → List Int → List Int → Int → Int → Bool → Int → Bool → Option (Bool)
 | 0, _, _, _, _, _, _, _, _ => none
 | k + 1, x2, x7, x8, x10, x11, x12, x13, x72 => if x72 = true then (if 0 ≤ x13 then (if (Int.tmod (shr .u32 x2 x13) 2) = 1 then (if 0 ≤ (wrap64 (x10 + (wrap64 (Int.tdiv (wrap64 (x11 + x13)) 8)))) then (if (wrap64 (x10 + (wrap64 (Int.tdiv (wrap64 (x11 + x13)) 8)))) < (x8.length : Int) then (if 0 ≤ (Int.tmod (wrap64 (x11 + x13)) 8) then (psalterylaw18_PageTurned.l0 k x2 x7 (x8.set ((wrap64 (x10 + (wrap64 (Int.tdiv (wrap64 (x11 + x13)) 8)))) : Int).toNat (Go.bits .xor .u8 (rd x8 (wrap64 (x10 + (wrap64 (Int.tdiv (wrap64 (x11 + x13)) 8))))) (shl .u8 1 (Int.tmod (wrap64 (x11 + x13)) 8)))) x10 x11 true (wrap64 (x13 + 1))) else (none)) else (none)) else (none)) else (psalterylaw18_PageTurned.l0 k x2 x7 x8 x10 x11 x12 (wrap64 (x13 + 1)))) else (none)) else (if x12 = true then ((page_Read.f x7 x8).bind fun bt117 => ((psalterylaw18_As.f bt117.1 bt117.2.1 bt117.2.2.1 bt117.2.2.2.1 bt117.2.2.2.2.1 bt117.2.2.2.2.2.1 bt117.2.2.2.2.2.2.1).bind fun _ => ((psalteryref18_Same.f bt117.1 bt117.2.1 bt117.2.2.1 bt117.2.2.2.1 bt117.2.2.2.2.1 bt117.2.2.2.2.2.1 bt117.2.2.2.2.2.2.1 0 0 false false false false ([] : List (List Int))).bind fun t129 => (if t129 = true then (if bt117.2.2.2.2.2.2.2.1 = 0 then (if bt117.2.2.2.2.2.2.2.2 = 6 then ((psalterylaw18_knows.f).bind fun t130 => (some t130)) else (some false)) else (some false)) else (some false))))) else ((psalterylaw18_knows.f).bind fun t116 => (some t116)))
end
def psalterylaw18_PageTurned.f (k : Nat) (a0_0 : Int) (a0_1 : Int) (a0_2 : Bool) (a0_3 : Bool) (a0_4 : Bool) (a0_5 : Bool) (l0_6 : List (List Int)) (a1 : Int) (a2 : Int) : Option (Bool) := (psalterylaw18_great.f a0_0 a0_1 a0_2 a0_3 a0_4 a0_5 l0_6).bind fun t102 => (if t102 = true then ((psalterylaw18_knows.f).bind fun t103 => (some t103)) else ((sums_Table.f).bind fun t104 => ((page_Write.f t104 a0_0 a0_1 a0_2 a0_3 a0_4 a0_5 l0_6).bind fun bt107 => (if bt107.2 = 0 then (psalterylaw18_PageTurned.j0 k a1 a2 t104 bt107.1 bt107.2 (decide ((bt107.1.length : Int) < 22))) else (psalterylaw18_PageTurned.j0 k a1 a2 t104 bt107.1 bt107.2 true)))))
theorem psalterylaw18_PageTurned.mono_l : ∀ k, (∀ y0 y1 y2 y3 y4 y5, LeO (psalterylaw18_PageTurned.j0 k y0 y1 y2 y3 y4 y5) (psalterylaw18_PageTurned.j0 (k + 1) y0 y1 y2 y3 y4 y5)) ∧ (∀ y0 y1 y2 y3 y4 y5 y6, LeO (psalterylaw18_PageTurned.l0 k y0 y1 y2 y3 y4 y5 y6) (psalterylaw18_PageTurned.l0 (k + 1) y0 y1 y2 y3 y4 y5 y6)) ∧ (∀ y0 y1 y2 y3 y4 y5 y6 y7, LeO (psalterylaw18_PageTurned.j2 k y0 y1 y2 y3 y4 y5 y6 y7) (psalterylaw18_PageTurned.j2 (k + 1) y0 y1 y2 y3 y4 y5 y6 y7))
 | 0 => ⟨fun _ _ _ _ _ _ r h => by simp [psalterylaw18_PageTurned.j0] at h, fun _ _ _ _ _ _ _ r h => by simp [psalterylaw18_PageTurned.l0] at h, fun _ _ _ _ _ _ _ _ r h => by simp [psalterylaw18_PageTurned.j2] at h⟩
 | k + 1 => by
  obtain ⟨ih0, ih1, ih2⟩ := psalterylaw18_PageTurned.mono_l k
  refine ⟨?_, ?_, ?_⟩
  ·intro y0 y1 y2 y3 y4 y5
   unfold psalterylaw18_PageTurned.j0
   repeat' first
   | (with_reducible exact ih0 _ _ _ _ _ _)
   | (with_reducible exact ih1 _ _ _ _ _ _ _)
   | (with_reducible exact ih2 _ _ _ _ _ _ _ _)
   | (with_reducible exact LeO.refl _)
   | (with_reducible exact LeO.none _)
   | (with_reducible refine LeO.ite ?_ ?_)
   | (with_reducible refine LeO.bind ?_ (fun _ => ?_))
   | exact ih0 _ _ _ _ _ _
   | exact ih1 _ _ _ _ _ _ _
   | exact ih2 _ _ _ _ _ _ _ _
   | exact LeO.none _
   | refine LeO.ite ?_ ?_
   | refine LeO.bind ?_ (fun _ => ?_)
  ·intro y0 y1 y2 y3 y4 y5 y6
   unfold psalterylaw18_PageTurned.l0
   repeat' first
   | (with_reducible exact ih0 _ _ _ _ _ _)
   | (with_reducible exact ih1 _ _ _ _ _ _ _)
   | (with_reducible exact ih2 _ _ _ _ _ _ _ _)
   | (with_reducible exact LeO.refl _)
   | (with_reducible exact LeO.none _)
   | (with_reducible refine LeO.ite ?_ ?_)
   | (with_reducible refine LeO.bind ?_ (fun _ => ?_))
   | exact ih0 _ _ _ _ _ _
   | exact ih1 _ _ _ _ _ _ _
   | exact ih2 _ _ _ _ _ _ _ _
   | exact LeO.none _
   | refine LeO.ite ?_ ?_
   | refine LeO.bind ?_ (fun _ => ?_)
  ·intro y0 y1 y2 y3 y4 y5 y6 y7
   unfold psalterylaw18_PageTurned.j2
   repeat' first
   | (with_reducible exact ih0 _ _ _ _ _ _)
   | (with_reducible exact ih1 _ _ _ _ _ _ _)
   | (with_reducible exact ih2 _ _ _ _ _ _ _ _)
   | (with_reducible exact LeO.refl _)
   | (with_reducible exact LeO.none _)
   | (with_reducible refine LeO.ite ?_ ?_)
   | (with_reducible refine LeO.bind ?_ (fun _ => ?_))
   | exact ih0 _ _ _ _ _ _
   | exact ih1 _ _ _ _ _ _ _
   | exact ih2 _ _ _ _ _ _ _ _
   | exact LeO.none _
   | refine LeO.ite ?_ ?_
   | refine LeO.bind ?_ (fun _ => ?_)
theorem psalterylaw18_PageTurned.mono : ∀ a0 a1 a2 a3 a4 a5 a6 a7 a8 k, LeO (psalterylaw18_PageTurned.f k a0 a1 a2 a3 a4 a5 a6 a7 a8) (psalterylaw18_PageTurned.f (k + 1) a0 a1 a2 a3 a4 a5 a6 a7 a8) := by
 intro a0 a1 a2 a3 a4 a5 a6 a7 a8 k
 obtain ⟨ih0, ih1, ih2⟩ := psalterylaw18_PageTurned.mono_l k
 unfold psalterylaw18_PageTurned.f
 repeat' first
   | (with_reducible exact ih0 _ _ _ _ _ _)
   | (with_reducible exact ih1 _ _ _ _ _ _ _)
   | (with_reducible exact ih2 _ _ _ _ _ _ _ _)
   | (with_reducible exact LeO.refl _)
   | (with_reducible exact LeO.none _)
   | (with_reducible refine LeO.ite ?_ ?_)
   | (with_reducible refine LeO.bind ?_ (fun _ => ?_))
   | exact ih0 _ _ _ _ _ _
   | exact ih1 _ _ _ _ _ _ _
   | exact ih2 _ _ _ _ _ _ _ _
   | exact LeO.none _
   | refine LeO.ite ?_ ?_
   | refine LeO.bind ?_ (fun _ => ?_)
def psalterylaw18_PageTurned.T17 : Bool × List (List Nat × List Nat) := (true, [([], []), ([], []), ([], []), ([], []), ([2, 3], [2, 3]), ([4], [4]), ([], []), ([], []), ([6, 7], [6, 7]), ([8], [8]), ([9], [9]), ([5, 10], [5, 10]), ([0, 1, 0, 1, 2, 3, 4, 5, 6, 7, 8, 9, 10, 11], [0, 1]), ([12, 11, 0, 1, 2, 3, 4, 5, 6, 7, 8, 9, 10, 11], [11, 12])])
def psalterylaw18_PageTurned.B17 : List Nat := [0, 0, 0, 0, 12, 28, 0, 0, 192, 448, 960, 2044, 4095, 8191]
theorem psalterylaw18_PageTurned.tab17 : rtab .any (opsOf Try.f7 17) = psalterylaw18_PageTurned.T17 := by kernel_rfl
theorem psalterylaw18_PageTurned.bits17 : waitsOk psalterylaw18_PageTurned.T17.2 psalterylaw18_PageTurned.B17 = true := by kernel_rfl
set_option maxHeartbeats 8000000 in
set_option maxRecDepth 100000 in
theorem psalterylaw18_PageTurned.calls (k : Nat) (a0_0 : Int) (a0_1 : Int) (a0_2 : Bool) (a0_3 : Bool) (a0_4 : Bool) (a0_5 : Bool) (A0_6 : Option Addr) (c0_6 : Nat) (l0_6 : List (List Int)) (a1 : Int) (a2 : Int) (w : World) (hr0_6 : Kd.C (Kd.slice 5 (Kd.int .u8)) w A0_6 l0_6.length l0_6) (hc0_6 : l0_6.length ≤ c0_6) (h : psalterylaw18_PageTurned.f k a0_0 a0_1 a0_2 a0_3 a0_4 a0_5 l0_6 a1 a2 = some true) :
  Calls Try.prog 7 #[.agg #[.int .i64 a0_0, .int .i64 a0_1, .bool a0_2, .bool a0_3, .bool a0_4, .bool a0_5, .slice A0_6 l0_6.length c0_6], .int .i64 a1, .int .u32 a2] w fun e w' => e = .returned (.bool true) ∧ Below w.heap.size w w' := by
 have hu43 := Try.underlying43
 have hu50 := Try.underlying50
 have HR0_6 := Aside0.mk hr0_6
 have HC0_6 := Aside0.mk hc0_6
 clear hr0_6 hc0_6
 have HB := Aside0.mk (Below.refl w.heap.size w)
 have H : ((psalterylaw18_great.f a0_0 a0_1 a0_2 a0_3 a0_4 a0_5 l0_6).bind fun t102 => (if t102 = true then ((psalterylaw18_knows.f).bind fun t103 => (some t103)) else ((sums_Table.f).bind fun t104 => ((page_Write.f t104 a0_0 a0_1 a0_2 a0_3 a0_4 a0_5 l0_6).bind fun bt107 => (if bt107.2 = 0 then (psalterylaw18_PageTurned.j0 k a1 a2 t104 bt107.1 bt107.2 (decide ((bt107.1.length : Int) < 22))) else (psalterylaw18_PageTurned.j0 k a1 a2 t104 bt107.1 bt107.2 true)))))) = some true := h
 clear h
 replace H := Option.bind_eq_some_iff.mp H
 obtain ⟨t102, A40, H⟩ := H
 replace H : (if t102 = true then ((psalterylaw18_knows.f).bind fun t103 => (some t103)) else ((sums_Table.f).bind fun t104 => ((page_Write.f t104 a0_0 a0_1 a0_2 a0_3 a0_4 a0_5 l0_6).bind fun bt107 => (if bt107.2 = 0 then (psalterylaw18_PageTurned.j0 k a1 a2 t104 bt107.1 bt107.2 (decide ((bt107.1.length : Int) < 22))) else (psalterylaw18_PageTurned.j0 k a1 a2 t104 bt107.1 bt107.2 true))))) = some true := H
 have A4 := Aside0.mk A40
 clear A40
 by_cases c5 : t102 = true
 ·subst c5
  have H1 : ((psalterylaw18_knows.f).bind fun t103 => (some t103)) = some true := by rw [if_pos rfl] at H; exact H
  clear H
  have H := H1
  clear H1
  replace H := Option.bind_eq_some_iff.mp H
  obtain ⟨t103, A60, H⟩ := H
  replace H : (some t103) = some true := H
  have A6 := Aside0.mk A60
  clear A60
  obtain rfl := Option.some.inj H
  go_enter Try.func7, Try.ntmps7
  go_wp2_with (first | ((with_reducible refine gate_dst (N := 3) rfl ?_); (try (refine gate_guard (by rfl) ?_; dsimp only)); refine box_event ?hg (N := 3) ?hd (cs := #[.int .i64 a0_0, .int .i64 a0_1, .bool a0_2, .bool a0_3, .bool a0_4, .bool a0_5, .slice A0_6 l0_6.length c0_6]) (t := 43) ?hr ?_; (case hd => rfl); (case hg => rfl); (case hr => first | (go_simp; done) | (go_simp; rfl)); intro gb101 hg w7 hbox hb; have n0_ := Aside0.mk (below_step (by repeat (first | (with_reducible first | exact HB.out | apply below_alloc | apply pw_below_drewN | apply below_drew1) | exact HB.out)) hb); have n1_ := Aside0.mk (hbox); have n2_ := Aside0.mk ((by rw [hg]; exact (below_size (by repeat (first | (with_reducible first | exact HB.out | apply below_alloc | apply pw_below_drewN | apply below_drew1) | exact HB.out))) : w.heap.size ≤ gb101)); have n3_ := Aside0.mk ((by rw [hg]; exact (below_size (by repeat (first | (with_reducible first | exact HB.out | apply below_alloc | apply pw_below_drewN | apply below_drew1) | exact HB.out))) : w.heap.size ≤ gb101)); clear HB; have HB := n0_; have BK101 := n1_; have GW101 := n2_; have GE101 := n3_; clear n0_ n1_ n2_ n3_; clear hb hbox hg; have hcz8_0 : w7.cell? ⟨gb101, 0, none⟩ = some (.int .i64 a0_0) := (blk_cell BK101.out 0).trans rfl; have hcz8_1 : w7.cell? ⟨gb101, 1, none⟩ = some (.int .i64 a0_1) := (blk_cell BK101.out 1).trans rfl; have hcz8_2 : w7.cell? ⟨gb101, 2, none⟩ = some (.bool a0_2) := (blk_cell BK101.out 2).trans rfl; have hcz8_3 : w7.cell? ⟨gb101, 3, none⟩ = some (.bool a0_3) := (blk_cell BK101.out 3).trans rfl; have hcz8_4 : w7.cell? ⟨gb101, 4, none⟩ = some (.bool a0_4) := (blk_cell BK101.out 4).trans rfl; have hcz8_5 : w7.cell? ⟨gb101, 5, none⟩ = some (.bool a0_5) := (blk_cell BK101.out 5).trans rfl; have hcz8_6 : w7.cell? ⟨gb101, 6, none⟩ = some (.slice A0_6 l0_6.length c0_6) := (blk_cell BK101.out 6).trans rfl; have hfz8_0 := blk_frozen BK101.out 0; have hfz8_1 := blk_frozen BK101.out 1; have hfz8_2 := blk_frozen BK101.out 2; have hfz8_3 := blk_frozen BK101.out 3; have hfz8_4 := blk_frozen BK101.out 4; have hfz8_5 := blk_frozen BK101.out 5; have hfz8_6 := blk_frozen BK101.out 6) | ((with_reducible refine gate_callee (f := 32) rfl ?_); refine goesL_ (some 19) rfl rfl Try.func32 (by kernel_rfl) rfl #[.agg #[.int .i64 a0_0, .int .i64 a0_1, .bool a0_2, .bool a0_3, .bool a0_4, .bool a0_5, .slice A0_6 l0_6.length c0_6]] rfl (by (try simp only [List.map_toArray, List.map_cons, List.map_nil]); first | done | rfl | (simp only [List.length_drop, List.length_take]; rfl)) ?_; (with_reducible refine (psalterylaw18_great.calls a0_0 a0_1 a0_2 a0_3 a0_4 a0_5 _ _ l0_6 true _ ?side1 ?side2 A4.out).mono ?_); (case side1 => repeat (first | exact (Kd.C_below HR0_6.out HB.out) | (with_reducible refine Kd.C_alloc ?_ _) | (with_reducible refine Kd.C_drewN ?_ _) | (with_reducible refine Kd.C_drew ?_))); (case side2 => exact HC0_6.out); rintro e w9 ⟨rfl, hb⟩; refine ⟨_, rfl, ?_⟩; have n0_ := Aside0.mk (blk_below (g := gb101) (o := .cells #[.int .i64 a0_0, .int .i64 a0_1, .bool a0_2, .bool a0_3, .bool a0_4, .bool a0_5, .slice A0_6 l0_6.length c0_6] 43 (0, 0)) (by (with_reducible repeat (first | refine blk_drewN ?_ _ | refine blk_drew ?_ | refine blk_alloc ?_ _)); exact BK101.out) hb); have n1_ := Aside0.mk (below_step (by repeat (first | (with_reducible first | exact HB.out | apply below_alloc | apply pw_below_drewN | apply below_drew1 | refine below_set ?_ GE101.out) | exact HB.out)) hb); clear BK101; clear HB; have BK101 := n0_; have HB := n1_; clear n0_ n1_; (try clear hb); (try clear hb2); (try clear hk); (try clear hi)) | ((with_reducible refine gate_callee (f := 33) rfl ?_); refine goesL_ (some 20) rfl rfl Try.func33 (by kernel_rfl) rfl #[] rfl (by (try simp only [List.map_toArray, List.map_cons, List.map_nil]); first | done | rfl | (simp only [List.length_drop, List.length_take]; rfl)) ?_; (with_reducible refine (psalterylaw18_knows.calls  true _ A6.out).mono ?_); rintro e w10 ⟨rfl, hb⟩; refine ⟨_, rfl, ?_⟩; have n0_ := Aside0.mk (blk_below (g := gb101) (o := .cells #[.int .i64 a0_0, .int .i64 a0_1, .bool a0_2, .bool a0_3, .bool a0_4, .bool a0_5, .slice A0_6 l0_6.length c0_6] 43 (0, 0)) (by (with_reducible repeat (first | refine blk_drewN ?_ _ | refine blk_drew ?_ | refine blk_alloc ?_ _)); exact BK101.out) hb); have n1_ := Aside0.mk (below_step (by repeat (first | (with_reducible first | exact HB.out | apply below_alloc | apply pw_below_drewN | apply below_drew1 | refine below_set ?_ GE101.out) | exact HB.out)) hb); clear BK101; clear HB; have BK101 := n0_; have HB := n1_; clear n0_ n1_; (try clear hb); (try clear hb2); (try clear hk); (try clear hi)))
  go_ret
  exact ⟨by first | rfl | (simp [errW_none, errW_some] <;> rfl) | (simp [*, errW_none, errW_some] <;> rfl), by repeat (first | (with_reducible first | exact HB.out | apply below_alloc | apply pw_below_drewN | apply below_drew1 | refine below_set ?_ GE101.out) | exact HB.out)⟩
 ·replace c5 := Bool.eq_false_iff.mpr c5
  subst c5
  have H1 : ((sums_Table.f).bind fun t104 => ((page_Write.f t104 a0_0 a0_1 a0_2 a0_3 a0_4 a0_5 l0_6).bind fun bt107 => (if bt107.2 = 0 then (psalterylaw18_PageTurned.j0 k a1 a2 t104 bt107.1 bt107.2 (decide ((bt107.1.length : Int) < 22))) else (psalterylaw18_PageTurned.j0 k a1 a2 t104 bt107.1 bt107.2 true)))) = some true := by rw [if_neg (show ¬ (false = true) by decide)] at H; exact H
  clear H
  have H := H1
  clear H1
  replace H := Option.bind_eq_some_iff.mp H
  obtain ⟨t104, A110, H⟩ := H
  replace H : ((page_Write.f t104 a0_0 a0_1 a0_2 a0_3 a0_4 a0_5 l0_6).bind fun bt107 => (if bt107.2 = 0 then (psalterylaw18_PageTurned.j0 k a1 a2 t104 bt107.1 bt107.2 (decide ((bt107.1.length : Int) < 22))) else (psalterylaw18_PageTurned.j0 k a1 a2 t104 bt107.1 bt107.2 true))) = some true := H
  have A11 := Aside0.mk A110
  clear A110
  replace H := Option.bind_eq_some_iff.mp H
  obtain ⟨⟨t107, t110⟩, A120, H⟩ := H
  replace H : (if t110 = 0 then (psalterylaw18_PageTurned.j0 k a1 a2 t104 t107 t110 (decide ((t107.length : Int) < 22))) else (psalterylaw18_PageTurned.j0 k a1 a2 t104 t107 t110 true)) = some true := H
  have A12 := Aside0.mk A120
  clear A120
  have HC13 := Aside0.mk H
  clear H
  go_enter Try.func7, Try.ntmps7
  go_upto_region 5 with (first | ((with_reducible refine gate_dst (N := 3) rfl ?_); (try (refine gate_guard (by rfl) ?_; dsimp only)); refine box_event ?hg (N := 3) ?hd (cs := #[.int .i64 a0_0, .int .i64 a0_1, .bool a0_2, .bool a0_3, .bool a0_4, .bool a0_5, .slice A0_6 l0_6.length c0_6]) (t := 43) ?hr ?_; (case hd => rfl); (case hg => rfl); (case hr => first | (go_simp; done) | (go_simp; rfl)); intro gb101 hg w14 hbox hb; have n0_ := Aside0.mk (below_step (by repeat (first | (with_reducible first | exact HB.out | apply below_alloc | apply pw_below_drewN | apply below_drew1) | exact HB.out)) hb); have n1_ := Aside0.mk (hbox); have n2_ := Aside0.mk ((by rw [hg]; exact (below_size (by repeat (first | (with_reducible first | exact HB.out | apply below_alloc | apply pw_below_drewN | apply below_drew1) | exact HB.out))) : w.heap.size ≤ gb101)); have n3_ := Aside0.mk ((by rw [hg]; exact (below_size (by repeat (first | (with_reducible first | exact HB.out | apply below_alloc | apply pw_below_drewN | apply below_drew1) | exact HB.out))) : w.heap.size ≤ gb101)); clear HB; have HB := n0_; have BK101 := n1_; have GW101 := n2_; have GE101 := n3_; clear n0_ n1_ n2_ n3_; clear hb hbox hg; have hcz15_0 : w14.cell? ⟨gb101, 0, none⟩ = some (.int .i64 a0_0) := (blk_cell BK101.out 0).trans rfl; have hcz15_1 : w14.cell? ⟨gb101, 1, none⟩ = some (.int .i64 a0_1) := (blk_cell BK101.out 1).trans rfl; have hcz15_2 : w14.cell? ⟨gb101, 2, none⟩ = some (.bool a0_2) := (blk_cell BK101.out 2).trans rfl; have hcz15_3 : w14.cell? ⟨gb101, 3, none⟩ = some (.bool a0_3) := (blk_cell BK101.out 3).trans rfl; have hcz15_4 : w14.cell? ⟨gb101, 4, none⟩ = some (.bool a0_4) := (blk_cell BK101.out 4).trans rfl; have hcz15_5 : w14.cell? ⟨gb101, 5, none⟩ = some (.bool a0_5) := (blk_cell BK101.out 5).trans rfl; have hcz15_6 : w14.cell? ⟨gb101, 6, none⟩ = some (.slice A0_6 l0_6.length c0_6) := (blk_cell BK101.out 6).trans rfl; have hfz15_0 := blk_frozen BK101.out 0; have hfz15_1 := blk_frozen BK101.out 1; have hfz15_2 := blk_frozen BK101.out 2; have hfz15_3 := blk_frozen BK101.out 3; have hfz15_4 := blk_frozen BK101.out 4; have hfz15_5 := blk_frozen BK101.out 5; have hfz15_6 := blk_frozen BK101.out 6) | ((with_reducible refine gate_callee (f := 32) rfl ?_); refine goesL_ (some 19) rfl rfl Try.func32 (by kernel_rfl) rfl #[.agg #[.int .i64 a0_0, .int .i64 a0_1, .bool a0_2, .bool a0_3, .bool a0_4, .bool a0_5, .slice A0_6 l0_6.length c0_6]] rfl (by (try simp only [List.map_toArray, List.map_cons, List.map_nil]); first | done | rfl | (simp only [List.length_drop, List.length_take]; rfl)) ?_; (with_reducible refine (psalterylaw18_great.calls a0_0 a0_1 a0_2 a0_3 a0_4 a0_5 _ _ l0_6 false _ ?side1 ?side2 A4.out).mono ?_); (case side1 => repeat (first | exact (Kd.C_below HR0_6.out HB.out) | (with_reducible refine Kd.C_alloc ?_ _) | (with_reducible refine Kd.C_drewN ?_ _) | (with_reducible refine Kd.C_drew ?_))); (case side2 => exact HC0_6.out); rintro e w16 ⟨rfl, hb⟩; refine ⟨_, rfl, ?_⟩; have n0_ := Aside0.mk (blk_below (g := gb101) (o := .cells #[.int .i64 a0_0, .int .i64 a0_1, .bool a0_2, .bool a0_3, .bool a0_4, .bool a0_5, .slice A0_6 l0_6.length c0_6] 43 (0, 0)) (by (with_reducible repeat (first | refine blk_drewN ?_ _ | refine blk_drew ?_ | refine blk_alloc ?_ _)); exact BK101.out) hb); have n1_ := Aside0.mk (below_step (by repeat (first | (with_reducible first | exact HB.out | apply below_alloc | apply pw_below_drewN | apply below_drew1 | refine below_set ?_ GE101.out) | exact HB.out)) hb); clear BK101; clear HB; have BK101 := n0_; have HB := n1_; clear n0_ n1_; (try clear hb); (try clear hb2); (try clear hk); (try clear hi)) | ((with_reducible refine gate_callee (f := 22) rfl ?_); refine goesL_ (some 21) rfl rfl Try.func22 (by kernel_rfl) rfl #[] rfl (by (try simp only [List.map_toArray, List.map_cons, List.map_nil]); first | done | rfl | (simp only [List.length_drop, List.length_take]; rfl)) ?_; (with_reducible refine (sums_Table.calls  t104 _ A11.out).mono ?_); rintro e w17 ⟨v105, rfl, ho0, hb⟩; refine ⟨_, rfl, ?_⟩; have n0_ := Aside0.mk (Kd.R_lower ho0 (below_size (by repeat (first | (with_reducible first | exact HB.out | apply below_alloc | apply pw_below_drewN | apply below_drew1 | refine below_set ?_ GE101.out) | exact HB.out)))); have n1_ := Aside0.mk (blk_below (g := gb101) (o := .cells #[.int .i64 a0_0, .int .i64 a0_1, .bool a0_2, .bool a0_3, .bool a0_4, .bool a0_5, .slice A0_6 l0_6.length c0_6] 43 (0, 0)) (by (with_reducible repeat (first | refine blk_drewN ?_ _ | refine blk_drew ?_ | refine blk_alloc ?_ _)); exact BK101.out) hb); have n2_ := Aside0.mk (below_step (by repeat (first | (with_reducible first | exact HB.out | apply below_alloc | apply pw_below_drewN | apply below_drew1 | refine below_set ?_ GE101.out) | exact HB.out)) hb); clear BK101; clear HB; have HO106 := n0_; have BK101 := n1_; have HB := n2_; clear n0_ n1_ n2_; (try clear hb); (try clear hb2); (try clear hk); (try clear hi); (try clear ho0); have hcz18_0 : w17.cell? ⟨gb101, 0, none⟩ = some (.int .i64 a0_0) := (blk_cell BK101.out 0).trans rfl; have hcz18_1 : w17.cell? ⟨gb101, 1, none⟩ = some (.int .i64 a0_1) := (blk_cell BK101.out 1).trans rfl; have hcz18_2 : w17.cell? ⟨gb101, 2, none⟩ = some (.bool a0_2) := (blk_cell BK101.out 2).trans rfl; have hcz18_3 : w17.cell? ⟨gb101, 3, none⟩ = some (.bool a0_3) := (blk_cell BK101.out 3).trans rfl; have hcz18_4 : w17.cell? ⟨gb101, 4, none⟩ = some (.bool a0_4) := (blk_cell BK101.out 4).trans rfl; have hcz18_5 : w17.cell? ⟨gb101, 5, none⟩ = some (.bool a0_5) := (blk_cell BK101.out 5).trans rfl; have hcz18_6 : w17.cell? ⟨gb101, 6, none⟩ = some (.slice A0_6 l0_6.length c0_6) := (blk_cell BK101.out 6).trans rfl; have hfz18_0 := blk_frozen BK101.out 0; have hfz18_1 := blk_frozen BK101.out 1; have hfz18_2 := blk_frozen BK101.out 2; have hfz18_3 := blk_frozen BK101.out 3; have hfz18_4 := blk_frozen BK101.out 4; have hfz18_5 := blk_frozen BK101.out 5; have hfz18_6 := blk_frozen BK101.out 6; obtain ⟨Ao19, co19, eo19⟩ := Kd.R_slice HO106.out; subst eo19) | ((with_reducible refine gate_callee (f := 34) rfl ?_); refine goesL_ (some 25) rfl rfl Try.func34 (by kernel_rfl) rfl #[.slice Ao19 t104.length co19, .agg #[.int .i64 a0_0, .int .i64 a0_1, .bool a0_2, .bool a0_3, .bool a0_4, .bool a0_5, .slice A0_6 l0_6.length c0_6]] rfl (by (try simp only [List.map_toArray, List.map_cons, List.map_nil]); first | done | rfl | (simp only [List.length_drop, List.length_take]; rfl)) ?_; (with_reducible refine (page_Write.calls _ _ t104 a0_0 a0_1 a0_2 a0_3 a0_4 a0_5 _ _ l0_6 t107 t110 _ ?side1 ?side2 ?side3 ?side4 A12.out).mono ?_); (case side1 => repeat (first | exact (Kd.R_reads' HO106.out).2.2 | (with_reducible refine Kd.C_alloc ?_ _) | (with_reducible refine Kd.C_drewN ?_ _) | (with_reducible refine Kd.C_drew ?_))); (case side2 => exact (Kd.R_reads' HO106.out).2.1); (case side3 => repeat (first | exact (Kd.C_below HR0_6.out HB.out) | (with_reducible refine Kd.C_alloc ?_ _) | (with_reducible refine Kd.C_drewN ?_ _) | (with_reducible refine Kd.C_drew ?_))); (case side4 => exact HC0_6.out); rintro e w20 ⟨v108, rfl, ho0, hb⟩; refine ⟨_, rfl, ?_⟩; have n0_ := Aside0.mk (Kd.R_below (by (with_reducible repeat (first | apply Kd.R_alloc | apply Kd.R_drewN | apply Kd.R_drew)); exact HO106.out) hb); have n1_ := Aside0.mk (Kd.R_lower ho0 (below_size (by repeat (first | (with_reducible first | exact HB.out | apply below_alloc | apply pw_below_drewN | apply below_drew1 | refine below_set ?_ GE101.out) | exact HB.out)))); have n2_ := Aside0.mk (blk_below (g := gb101) (o := .cells #[.int .i64 a0_0, .int .i64 a0_1, .bool a0_2, .bool a0_3, .bool a0_4, .bool a0_5, .slice A0_6 l0_6.length c0_6] 43 (0, 0)) (by (with_reducible repeat (first | refine blk_drewN ?_ _ | refine blk_drew ?_ | refine blk_alloc ?_ _)); exact BK101.out) hb); have n3_ := Aside0.mk (below_step (by repeat (first | (with_reducible first | exact HB.out | apply below_alloc | apply pw_below_drewN | apply below_drew1 | refine below_set ?_ GE101.out) | exact HB.out)) hb); clear HO106; clear BK101; clear HB; have HO106 := n0_; have HO109 := n1_; have BK101 := n2_; have HB := n3_; clear n0_ n1_ n2_ n3_; (try clear hb); (try clear hb2); (try clear hk); (try clear hi); (try clear ho0)))
  (try simp only [Act.put, List.setIfInBounds_toArray, List.set_cons_zero, List.set_cons_succ])
  go_cut [34] (fun v34 wc => ∃ (kq : Nat) (x34_12 : Bool), v34 = .bool x34_12 ∧ Aside0 (psalterylaw18_PageTurned.j0 kq a1 a2 t104 t107 t110 x34_12 = some true) ∧ Aside0 (kq ≤ k) ∧ Aside0 (Kd.R (Kd.int .u32) 24 wc w.heap.size (fun _ => True) (.slice Ao19 t104.length co19) t104) ∧ Aside0 (Kd.R (Kd.int .u8) 5 wc w.heap.size (fun _ => True) v108 t107) ∧ Aside0 (wc.heap[gb101]? = some (.cells #[.int .i64 a0_0, .int .i64 a0_1, .bool a0_2, .bool a0_3, .bool a0_4, .bool a0_5, (.slice A0_6 l0_6.length c0_6)] 43 (0, 0))) ∧ Aside0 (Below w.heap.size w wc))
  case first =>
   have H := HC13.out
   clear HC13
   by_cases c21 : t110 = 0
   ·rw [if_pos c21] at H
    have c21b0 : (t110 == 0) = true := beq_iff_eq.mpr c21
    have c21b1 : (t110 != 0) = false := bne_eq_false_iff_eq.mpr c21
    clear c21
    (first | rw [c21b0] | (simp only [i64_w, i32_w]; rw [c21b0]) | skip)
    have H' := Aside0.mk H
    clear H
    obtain ⟨Ao22, co22, eo22⟩ := Kd.R_slice HO109.out
    subst eo22
    go_wp2
    go_meet
    case rel => exact ⟨_, (decide ((t107.length : Int) < 22)), (by first | rfl | (simp; done) | (simp [*]; done)), H', ⟨by first | omega | exact Nat.le_refl _⟩, ⟨by (with_reducible repeat (first | apply Kd.R_alloc | apply Kd.R_drewN | apply Kd.R_drew)); exact HO106.out⟩, ⟨by (with_reducible repeat (first | apply Kd.R_alloc | apply Kd.R_drewN | apply Kd.R_drew)); exact HO109.out⟩, ⟨by (with_reducible repeat (first | refine blk_drewN ?_ _ | refine blk_drew ?_ | refine blk_alloc ?_ _)); exact BK101.out⟩, ⟨by repeat (first | (with_reducible first | exact HB.out | apply below_alloc | apply pw_below_drewN | apply below_drew1 | refine below_set ?_ GE101.out) | exact HB.out)⟩⟩
   ·rw [if_neg c21] at H
    have c21b0 : (t110 == 0) = false := beq_eq_false_iff_ne.mpr c21
    have c21b1 : (t110 != 0) = true := bne_iff_ne.mpr c21
    (first | rw [c21b0] | (simp only [i64_w, i32_w]; rw [c21b0]) | skip)
    have H' := Aside0.mk H
    clear H
    go_wp2
    go_meet
    case rel => exact ⟨_, (true), (by first | rfl | (simp; done) | (simp [*]; done)), H', ⟨by first | omega | exact Nat.le_refl _⟩, ⟨by (with_reducible repeat (first | apply Kd.R_alloc | apply Kd.R_drewN | apply Kd.R_drew)); exact HO106.out⟩, ⟨by (with_reducible repeat (first | apply Kd.R_alloc | apply Kd.R_drewN | apply Kd.R_drew)); exact HO109.out⟩, ⟨by (with_reducible repeat (first | refine blk_drewN ?_ _ | refine blk_drew ?_ | refine blk_alloc ?_ _)); exact BK101.out⟩, ⟨by repeat (first | (with_reducible first | exact HB.out | apply below_alloc | apply pw_below_drewN | apply below_drew1 | refine below_set ?_ GE101.out) | exact HB.out)⟩⟩
  case rest =>
   clear HC13
   try clear c2
   try clear p2
   try clear c3
   try clear c5
   try clear c7
   try clear c21
   try clear c21b0
   try clear c21b1
   try clear c22
   try clear hcz15_0
   try clear hcz15_1
   try clear hcz15_2
   try clear hcz15_3
   try clear hcz15_4
   try clear hcz15_5
   try clear hcz15_6
   try clear hcz18_0
   try clear hcz18_1
   try clear hcz18_2
   try clear hcz18_3
   try clear hcz18_4
   try clear hcz18_5
   try clear hcz18_6
   try clear hcz8_0
   try clear hcz8_1
   try clear hcz8_2
   try clear hcz8_3
   try clear hcz8_4
   try clear hcz8_5
   try clear hcz8_6
   try clear hfz15_0
   try clear hfz15_1
   try clear hfz15_2
   try clear hfz15_3
   try clear hfz15_4
   try clear hfz15_5
   try clear hfz15_6
   try clear hfz18_0
   try clear hfz18_1
   try clear hfz18_2
   try clear hfz18_3
   try clear hfz18_4
   try clear hfz18_5
   try clear hfz18_6
   try clear hfz8_0
   try clear hfz8_1
   try clear hfz8_2
   try clear hfz8_3
   try clear hfz8_4
   try clear hfz8_5
   try clear hfz8_6
   obtain ⟨kq, x34_12, rfl, HA, HJ12, HO_7, HO_8, BK101, HB⟩ := hcut
   cases kq with
   | zero => exact absurd HA.out (by simp [psalterylaw18_PageTurned.j0])
   | succ kj12 =>
    have H := HA.out
    clear HA
    simp only [psalterylaw18_PageTurned.j0] at H
    by_cases c23 : x34_12 = true
    ·subst c23
     have H1 : (if t110 = 0 then (some false) else ((psalterylaw18_knows.f).bind fun t111 => (some t111))) = some true := by rw [if_pos rfl] at H; exact H
     clear H
     have H := H1
     clear H1
     by_cases c24 : t110 = 0
     ·rw [if_pos c24] at H
      exact absurd H (by simp)
     ·rw [if_neg c24] at H
      have c24b0 : (t110 == 0) = false := beq_eq_false_iff_ne.mpr c24
      have c24b1 : (t110 != 0) = true := bne_iff_ne.mpr c24
      replace H := Option.bind_eq_some_iff.mp H
      obtain ⟨t111, A250, H⟩ := H
      replace H : (some t111) = some true := H
      have A25 := Aside0.mk A250
      clear A250
      obtain rfl := Option.some.inj H
      go_wp2_with (first | (go_at_call 33; (with_reducible refine (psalterylaw18_knows.calls  true _ A25.out).mono ?_); rintro e w26 ⟨rfl, hb⟩; have n0_ := Aside0.mk (Kd.R_below (by (with_reducible repeat (first | apply Kd.R_alloc | apply Kd.R_drewN | apply Kd.R_drew)); exact HO_7.out) hb); have n1_ := Aside0.mk (Kd.R_below (by (with_reducible repeat (first | apply Kd.R_alloc | apply Kd.R_drewN | apply Kd.R_drew)); exact HO_8.out) hb); have n2_ := Aside0.mk (blk_below (g := gb101) (o := .cells #[.int .i64 a0_0, .int .i64 a0_1, .bool a0_2, .bool a0_3, .bool a0_4, .bool a0_5, .slice A0_6 l0_6.length c0_6] 43 (0, 0)) (by (with_reducible repeat (first | refine blk_drewN ?_ _ | refine blk_drew ?_ | refine blk_alloc ?_ _)); exact BK101.out) hb); have n3_ := Aside0.mk (below_step (by repeat (first | (with_reducible first | exact HB.out | apply below_alloc | apply pw_below_drewN | apply below_drew1 | refine below_set ?_ GE101.out) | exact HB.out)) hb); clear HO_7; clear HO_8; clear BK101; clear HB; have HO_7 := n0_; have HO_8 := n1_; have BK101 := n2_; have HB := n3_; clear n0_ n1_ n2_ n3_; (try clear hb); (try clear hb2); (try clear hk); (try clear hi)))
      go_ret
      exact ⟨by first | rfl | (simp [errW_none, errW_some] <;> rfl) | (simp [*, errW_none, errW_some] <;> rfl), by repeat (first | (with_reducible first | exact HB.out | apply below_alloc | apply pw_below_drewN | apply below_drew1 | refine below_set ?_ GE101.out) | exact HB.out)⟩
    ·replace c23 := Bool.eq_false_iff.mpr c23
     subst c23
     have H1 : (if 21 < (t107.length : Int) then (if (wrap64 (22 + (wrap64 (rd t107 21)))) ≥ (t107.length : Int) then ((psalterylaw18_knows.f).bind fun t113 => (some t113)) else (if (IntKind.u64.wrap (wrap64 (8 * (wrap64 ((t107.length : Int) - (wrap64 (22 + (wrap64 (rd t107 21))))))))) = 0 then (none) else (psalterylaw18_PageTurned.l0 kj12 a2 t104 t107 (wrap64 (22 + (wrap64 (rd t107 21)))) (wrap64 (Int.tmod (IntKind.u64.wrap (a1)) (IntKind.u64.wrap (wrap64 (8 * (wrap64 ((t107.length : Int) - (wrap64 (22 + (wrap64 (rd t107 21))))))))))) false 0))) else (none)) = some true := by rw [if_neg (show ¬ (false = true) by decide)] at H; exact H
     clear H
     have H := H1
     clear H1
     by_cases c27 : 21 < (t107.length : Int)
     rotate_left
     ·rw [if_neg c27] at H
      exact absurd H (by simp)
     rw [if_pos c27] at H
     have c27b0 : decide (21 < (t107.length : Int)) = true := decide_eq_true c27
     have c27b1 : decide (21 < t107.length) = true := decide_eq_true (by omega)
     clear c27
     by_cases c28 : (wrap64 (22 + (wrap64 (rd t107 21)))) ≥ (t107.length : Int)
     ·rw [if_pos c28] at H
      have c28b0 : decide ((t107.length : Int) ≤ (wrap64 (22 + (wrap64 (rd t107 21))))) = true := decide_eq_true c28
      clear c28
      replace H := Option.bind_eq_some_iff.mp H
      obtain ⟨t113, A290, H⟩ := H
      replace H : (some t113) = some true := H
      have A29 := Aside0.mk A290
      clear A290
      obtain rfl := Option.some.inj H
      obtain ⟨Ao30, co30, eo30⟩ := Kd.R_slice HO_8.out
      subst eo30
      have p112 : 0 ≤ (21 : Int) := (by omega)
      have q112 : 21 < (t107.length : Int) := of_decide_eq_true (by first | (with_reducible assumption) | assumption)
      obtain ⟨ad112, e112, hx112_0⟩ := Kd.at_int (Kd.R_reads' HO_8.out).2.2 21 p112 q112
      cases e112
      (try simp only [show (21 : Int).toNat = 21 from rfl, Nat.reduceMul, Nat.reduceEqDiff, Go.Addr.add, ↓reduceIte] at hx112_0)
      have qi112 : (21 < t107.length) = True := eq_true (by omega)
      (try rw [show ((21 : Int)).toNat = 21 from rfl] at hx112_0)
      replace p112 := eq_true p112
      replace q112 := eq_true q112
      go_wp2_with (first | ((with_reducible refine gate_callee (f := 33) rfl ?_); refine goesL_ (some 49) rfl rfl Try.func33 (by kernel_rfl) rfl #[] rfl (by (try simp only [List.map_toArray, List.map_cons, List.map_nil]); first | done | rfl | (simp only [List.length_drop, List.length_take]; rfl)) ?_; (with_reducible refine (psalterylaw18_knows.calls  true _ A29.out).mono ?_); rintro e w31 ⟨rfl, hb⟩; refine ⟨_, rfl, ?_⟩; have n0_ := Aside0.mk (Kd.R_below (by (with_reducible repeat (first | apply Kd.R_alloc | apply Kd.R_drewN | apply Kd.R_drew)); exact HO_7.out) hb); have n1_ := Aside0.mk (Kd.R_below (by (with_reducible repeat (first | apply Kd.R_alloc | apply Kd.R_drewN | apply Kd.R_drew)); exact HO_8.out) hb); have n2_ := Aside0.mk (blk_below (g := gb101) (o := .cells #[.int .i64 a0_0, .int .i64 a0_1, .bool a0_2, .bool a0_3, .bool a0_4, .bool a0_5, .slice A0_6 l0_6.length c0_6] 43 (0, 0)) (by (with_reducible repeat (first | refine blk_drewN ?_ _ | refine blk_drew ?_ | refine blk_alloc ?_ _)); exact BK101.out) hb); have n3_ := Aside0.mk (below_step (by repeat (first | (with_reducible first | exact HB.out | apply below_alloc | apply pw_below_drewN | apply below_drew1 | refine below_set ?_ GE101.out) | exact HB.out)) hb); clear HO_7; clear HO_8; clear BK101; clear HB; have HO_7 := n0_; have HO_8 := n1_; have BK101 := n2_; have HB := n3_; clear n0_ n1_ n2_ n3_; (try clear hb); (try clear hb2); (try clear hk); (try clear hi)))
      go_ret
      exact ⟨by first | rfl | (simp [errW_none, errW_some] <;> rfl) | (simp [*, errW_none, errW_some] <;> rfl), by repeat (first | (with_reducible first | exact HB.out | apply below_alloc | apply pw_below_drewN | apply below_drew1 | refine below_set ?_ GE101.out) | exact HB.out)⟩
     ·rw [if_neg c28] at H
      have c28b0 : decide ((t107.length : Int) ≤ (wrap64 (22 + (wrap64 (rd t107 21))))) = false := decide_eq_false c28
      clear c28
      by_cases c32 : (IntKind.u64.wrap (wrap64 (8 * (wrap64 ((t107.length : Int) - (wrap64 (22 + (wrap64 (rd t107 21))))))))) = 0
      ·rw [if_pos c32] at H
       exact absurd H (by simp)
      ·rw [if_neg c32] at H
       have c32b0 : ((IntKind.u64.wrap (wrap64 (8 * (wrap64 ((t107.length : Int) - (wrap64 (22 + (wrap64 (rd t107 21))))))))) == 0) = false := beq_eq_false_iff_ne.mpr c32
       have c32b1 : ((IntKind.u64.wrap (wrap64 (8 * (wrap64 ((t107.length : Int) - (wrap64 (22 + (wrap64 (rd t107 21))))))))) != 0) = true := bne_iff_ne.mpr c32
       have H' := Aside0.mk H
       clear H
       obtain ⟨Ao33, co33, eo33⟩ := Kd.R_slice HO_8.out
       subst eo33
       have p112 : 0 ≤ (21 : Int) := (by omega)
       have q112 : 21 < (t107.length : Int) := of_decide_eq_true (by first | (with_reducible assumption) | assumption)
       obtain ⟨ad112, e112, hx112_0⟩ := Kd.at_int (Kd.R_reads' HO_8.out).2.2 21 p112 q112
       cases e112
       (try simp only [show (21 : Int).toNat = 21 from rfl, Nat.reduceMul, Nat.reduceEqDiff, Go.Addr.add, ↓reduceIte] at hx112_0)
       have qi112 : (21 < t107.length) = True := eq_true (by omega)
       (try rw [show ((21 : Int)).toNat = 21 from rfl] at hx112_0)
       replace p112 := eq_true p112
       replace q112 := eq_true q112
       go_wp2
       go_loopg [12, 13] kj12 (fun kq v12 v13 w' => ∃ (x8_2 : List Int) (x12_2 : Bool) (x13_2 : Int), v12 = .bool x12_2 ∧ v13 = .int .i64 x13_2 ∧ Aside0 (psalterylaw18_PageTurned.l0 kq a2 t104 x8_2 (wrap64 (22 + (wrap64 (rd t107 21)))) (wrap64 (Int.tmod (IntKind.u64.wrap (a1)) (IntKind.u64.wrap (wrap64 (8 * (wrap64 ((t107.length : Int) - (wrap64 (22 + (wrap64 (rd t107 21))))))))))) x12_2 x13_2 = some true) ∧ Aside0 (kq ≤ kj12) ∧ Aside0 (Kd.R (Kd.int .u32) 24 w' w.heap.size (fun _ => True) (.slice Ao19 t104.length co19) t104) ∧ Aside0 (Kd.R (Kd.int .u8) 5 w' w.heap.size (fun _ => True) (.slice (some ad112) t107.length co33) x8_2) ∧ Aside0 (w'.heap[gb101]? = some (.cells #[.int .i64 a0_0, .int .i64 a0_1, .bool a0_2, .bool a0_3, .bool a0_4, .bool a0_5, (.slice A0_6 l0_6.length c0_6)] 43 (0, 0))) ∧ Aside0 (Below w.heap.size w w'))
       case atStart => exact ⟨(t107), (false), (0), (by first | rfl | (simp; done) | (simp [*]; done)), (by first | rfl | (simp; done) | (simp [*]; done)), H', ⟨Nat.le_refl _⟩, ⟨by (with_reducible repeat (first | apply Kd.R_alloc | apply Kd.R_drewN | apply Kd.R_drew)); exact HO_7.out⟩, ⟨by (with_reducible repeat (first | apply Kd.R_alloc | apply Kd.R_drewN | apply Kd.R_drew)); exact HO_8.out⟩, ⟨by (with_reducible repeat (first | refine blk_drewN ?_ _ | refine blk_drew ?_ | refine blk_alloc ?_ _)); exact BK101.out⟩, ⟨by repeat (first | (with_reducible first | exact HB.out | apply below_alloc | apply pw_below_drewN | apply below_drew1 | refine below_set ?_ GE101.out) | exact HB.out)⟩⟩
       case round =>
        clear H'
        try clear p1
        try clear q1
        try clear hx1
        try clear qi1
        try clear c2
        try clear p2
        try clear c3
        try clear c5
        try clear p6
        try clear c7
        try clear p11
        try clear q11
        try clear hx11
        try clear qi11
        try clear c21
        try clear c21b0
        try clear c21b1
        try clear c22
        try clear c23
        try clear c24
        try clear c24b0
        try clear c24b1
        try clear c27
        try clear c27b0
        try clear c27b1
        try clear c28
        try clear c28b0
        try clear c32
        try clear c32b0
        try clear c32b1
        try clear c33
        try clear hcz15_0
        try clear hcz15_1
        try clear hcz15_2
        try clear hcz15_3
        try clear hcz15_4
        try clear hcz15_5
        try clear hcz15_6
        try clear hcz18_0
        try clear hcz18_1
        try clear hcz18_2
        try clear hcz18_3
        try clear hcz18_4
        try clear hcz18_5
        try clear hcz18_6
        try clear hcz8_0
        try clear hcz8_1
        try clear hcz8_2
        try clear hcz8_3
        try clear hcz8_4
        try clear hcz8_5
        try clear hcz8_6
        try clear hfz15_0
        try clear hfz15_1
        try clear hfz15_2
        try clear hfz15_3
        try clear hfz15_4
        try clear hfz15_5
        try clear hfz15_6
        try clear hfz18_0
        try clear hfz18_1
        try clear hfz18_2
        try clear hfz18_3
        try clear hfz18_4
        try clear hfz18_5
        try clear hfz18_6
        try clear hfz8_0
        try clear hfz8_1
        try clear hfz8_2
        try clear hfz8_3
        try clear hfz8_4
        try clear hfz8_5
        try clear hfz8_6
        try clear hx112_0
        try clear p112
        try clear p2
        try clear q112
        obtain ⟨x8_2, x12_2, x13_2, rfl, rfl, HA, HK2, HO_7, HO_8, BK101, HB⟩ := hrel
        have hl8_2 := (Kd.R_reads' HO_8.out).1
        rw [hl8_2] at HO_8
        (try simp only [hl8_2])
        (try simp only [hl8_2] at BK101)
        (try simp only [hl8_2] at HO_7)
        cases gk with
        | zero => exact absurd HA.out (by simp [psalterylaw18_PageTurned.l0])
        | succ k2 =>
         have H := HA.out
         clear HA
         simp only [psalterylaw18_PageTurned.l0] at H
         have HC34 := Aside0.mk H
         clear H
         go_upto_region 13 with (fail)
         go_cut [72] (fun v72 wc => ∃ (kq : Nat) (x72_33 : Bool), v72 = .bool x72_33 ∧ Aside0 (psalterylaw18_PageTurned.j2 kq a2 t104 x8_2 (wrap64 (22 + (wrap64 (rd t107 21)))) (wrap64 (Int.tmod (IntKind.u64.wrap (a1)) (IntKind.u64.wrap (wrap64 (8 * (wrap64 ((t107.length : Int) - (wrap64 (22 + (wrap64 (rd t107 21))))))))))) x12_2 x13_2 x72_33 = some true) ∧ Aside0 (kq ≤ k2) ∧ Aside0 (Kd.R (Kd.int .u32) 24 wc w.heap.size (fun _ => True) (.slice Ao19 t104.length co19) t104) ∧ Aside0 (Kd.R (Kd.int .u8) 5 wc w.heap.size (fun _ => True) (.slice (some ad112) x8_2.length co33) x8_2) ∧ Aside0 (wc.heap[gb101]? = some (.cells #[.int .i64 a0_0, .int .i64 a0_1, .bool a0_2, .bool a0_3, .bool a0_4, .bool a0_5, (.slice A0_6 l0_6.length c0_6)] 43 (0, 0))) ∧ Aside0 (Below w.heap.size w wc))
         case first =>
          have H := HC34.out
          clear HC34
          by_cases c35 : x13_2 < 32
          ·rw [if_pos c35] at H
           have c35b0 : decide (x13_2 < 32) = true := decide_eq_true c35
           (try simp only [hl8_2] at c35b0)
           clear c35
           (first | rw [c35b0] | (simp only [i64_w, i32_w]; rw [c35b0]) | skip)
           have H' := Aside0.mk H
           clear H
           go_wp2
           go_meet
           case rel => exact ⟨_, (decide ((wrap64 ((wrap64 (Int.tmod (IntKind.u64.wrap (a1)) (IntKind.u64.wrap (wrap64 (8 * (wrap64 ((t107.length : Int) - (wrap64 (22 + (wrap64 (rd t107 21))))))))))) + x13_2)) < (wrap64 (8 * (wrap64 ((x8_2.length : Int) - (wrap64 (22 + (wrap64 (rd t107 21)))))))))), (by first | rfl | (simp; done) | (simp [*]; done)), H', ⟨by have := HJ12.out; have := HK2.out; first | omega | exact Nat.le_refl _⟩, ⟨by (try simp only [hl8_2]); (with_reducible repeat (first | apply Kd.R_alloc | apply Kd.R_drewN | apply Kd.R_drew)); exact HO_7.out⟩, ⟨by (try simp only [hl8_2]); (with_reducible repeat (first | apply Kd.R_alloc | apply Kd.R_drewN | apply Kd.R_drew)); exact HO_8.out⟩, ⟨by (try simp only [hl8_2]); (with_reducible repeat (first | refine blk_drewN ?_ _ | refine blk_drew ?_ | refine blk_alloc ?_ _)); exact BK101.out⟩, ⟨by repeat (first | (with_reducible first | exact HB.out | apply below_alloc | apply pw_below_drewN | apply below_drew1 | refine below_set ?_ GE101.out) | exact HB.out)⟩⟩
          ·rw [if_neg c35] at H
           have c35b0 : decide (x13_2 < 32) = false := decide_eq_false c35
           (try simp only [hl8_2] at c35b0)
           clear c35
           (first | rw [c35b0] | (simp only [i64_w, i32_w]; rw [c35b0]) | skip)
           have H' := Aside0.mk H
           clear H
           go_wp2
           go_meet
           case rel => exact ⟨_, (false), (by first | rfl | (simp; done) | (simp [*]; done)), H', ⟨by have := HJ12.out; have := HK2.out; first | omega | exact Nat.le_refl _⟩, ⟨by (try simp only [hl8_2]); (with_reducible repeat (first | apply Kd.R_alloc | apply Kd.R_drewN | apply Kd.R_drew)); exact HO_7.out⟩, ⟨by (try simp only [hl8_2]); (with_reducible repeat (first | apply Kd.R_alloc | apply Kd.R_drewN | apply Kd.R_drew)); exact HO_8.out⟩, ⟨by (try simp only [hl8_2]); (with_reducible repeat (first | refine blk_drewN ?_ _ | refine blk_drew ?_ | refine blk_alloc ?_ _)); exact BK101.out⟩, ⟨by repeat (first | (with_reducible first | exact HB.out | apply below_alloc | apply pw_below_drewN | apply below_drew1 | refine below_set ?_ GE101.out) | exact HB.out)⟩⟩
         case rest =>
          clear HC34
          try clear p1
          try clear q1
          try clear hx1
          try clear qi1
          try clear c2
          try clear p2
          try clear c3
          try clear c5
          try clear p6
          try clear c7
          try clear p11
          try clear q11
          try clear hx11
          try clear qi11
          try clear c21
          try clear c21b0
          try clear c21b1
          try clear c22
          try clear c23
          try clear c24
          try clear c24b0
          try clear c24b1
          try clear c27
          try clear c27b0
          try clear c27b1
          try clear c28
          try clear c28b0
          try clear c32
          try clear c32b0
          try clear c32b1
          try clear c33
          try clear c34
          try clear c35
          try clear c35b0
          try clear hcz15_0
          try clear hcz15_1
          try clear hcz15_2
          try clear hcz15_3
          try clear hcz15_4
          try clear hcz15_5
          try clear hcz15_6
          try clear hcz18_0
          try clear hcz18_1
          try clear hcz18_2
          try clear hcz18_3
          try clear hcz18_4
          try clear hcz18_5
          try clear hcz18_6
          try clear hcz8_0
          try clear hcz8_1
          try clear hcz8_2
          try clear hcz8_3
          try clear hcz8_4
          try clear hcz8_5
          try clear hcz8_6
          try clear hfz15_0
          try clear hfz15_1
          try clear hfz15_2
          try clear hfz15_3
          try clear hfz15_4
          try clear hfz15_5
          try clear hfz15_6
          try clear hfz18_0
          try clear hfz18_1
          try clear hfz18_2
          try clear hfz18_3
          try clear hfz18_4
          try clear hfz18_5
          try clear hfz18_6
          try clear hfz8_0
          try clear hfz8_1
          try clear hfz8_2
          try clear hfz8_3
          try clear hfz8_4
          try clear hfz8_5
          try clear hfz8_6
          try clear hx112_0
          try clear p1
          try clear p11
          try clear p112
          try clear p2
          try clear p6
          try clear q1
          try clear q11
          try clear q112
          obtain ⟨kq, x72_33, rfl, HA, HJ33, HO_7, HO_8, BK101, HB⟩ := hcut
          cases kq with
          | zero => exact absurd HA.out (by simp [psalterylaw18_PageTurned.j2])
          | succ kj33 =>
           have H := HA.out
           clear HA
           simp only [psalterylaw18_PageTurned.j2] at H
           by_cases c36 : x72_33 = true
           ·subst c36
            have H1 : (if 0 ≤ x13_2 then (if (Int.tmod (shr .u32 a2 x13_2) 2) = 1 then (if 0 ≤ (wrap64 ((wrap64 (22 + (wrap64 (rd t107 21)))) + (wrap64 (Int.tdiv (wrap64 ((wrap64 (Int.tmod (IntKind.u64.wrap (a1)) (IntKind.u64.wrap (wrap64 (8 * (wrap64 ((t107.length : Int) - (wrap64 (22 + (wrap64 (rd t107 21))))))))))) + x13_2)) 8)))) then (if (wrap64 ((wrap64 (22 + (wrap64 (rd t107 21)))) + (wrap64 (Int.tdiv (wrap64 ((wrap64 (Int.tmod (IntKind.u64.wrap (a1)) (IntKind.u64.wrap (wrap64 (8 * (wrap64 ((t107.length : Int) - (wrap64 (22 + (wrap64 (rd t107 21))))))))))) + x13_2)) 8)))) < (x8_2.length : Int) then (if 0 ≤ (Int.tmod (wrap64 ((wrap64 (Int.tmod (IntKind.u64.wrap (a1)) (IntKind.u64.wrap (wrap64 (8 * (wrap64 ((t107.length : Int) - (wrap64 (22 + (wrap64 (rd t107 21))))))))))) + x13_2)) 8) then (psalterylaw18_PageTurned.l0 kj33 a2 t104 (x8_2.set ((wrap64 ((wrap64 (22 + (wrap64 (rd t107 21)))) + (wrap64 (Int.tdiv (wrap64 ((wrap64 (Int.tmod (IntKind.u64.wrap (a1)) (IntKind.u64.wrap (wrap64 (8 * (wrap64 ((t107.length : Int) - (wrap64 (22 + (wrap64 (rd t107 21))))))))))) + x13_2)) 8)))) : Int).toNat (Go.bits .xor .u8 (rd x8_2 (wrap64 ((wrap64 (22 + (wrap64 (rd t107 21)))) + (wrap64 (Int.tdiv (wrap64 ((wrap64 (Int.tmod (IntKind.u64.wrap (a1)) (IntKind.u64.wrap (wrap64 (8 * (wrap64 ((t107.length : Int) - (wrap64 (22 + (wrap64 (rd t107 21))))))))))) + x13_2)) 8))))) (shl .u8 1 (Int.tmod (wrap64 ((wrap64 (Int.tmod (IntKind.u64.wrap (a1)) (IntKind.u64.wrap (wrap64 (8 * (wrap64 ((t107.length : Int) - (wrap64 (22 + (wrap64 (rd t107 21))))))))))) + x13_2)) 8)))) (wrap64 (22 + (wrap64 (rd t107 21)))) (wrap64 (Int.tmod (IntKind.u64.wrap (a1)) (IntKind.u64.wrap (wrap64 (8 * (wrap64 ((t107.length : Int) - (wrap64 (22 + (wrap64 (rd t107 21))))))))))) true (wrap64 (x13_2 + 1))) else (none)) else (none)) else (none)) else (psalterylaw18_PageTurned.l0 kj33 a2 t104 x8_2 (wrap64 (22 + (wrap64 (rd t107 21)))) (wrap64 (Int.tmod (IntKind.u64.wrap (a1)) (IntKind.u64.wrap (wrap64 (8 * (wrap64 ((t107.length : Int) - (wrap64 (22 + (wrap64 (rd t107 21))))))))))) x12_2 (wrap64 (x13_2 + 1)))) else (none)) = some true := by rw [if_pos rfl] at H; exact H
            clear H
            have H := H1
            clear H1
            by_cases c37 : 0 ≤ x13_2
            rotate_left
            ·rw [if_neg c37] at H
             exact absurd H (by simp)
            rw [if_pos c37] at H
            have c37b0 := eq_true c37
            have c37b1 : decide (0 ≤ x13_2) = true := decide_eq_true c37
            (try simp only [hl8_2] at c37b0)
            (try simp only [hl8_2] at c37b1)
            clear c37
            obtain ⟨ji38, hji38⟩ : ∃ j_ : Int, (shr .u32 a2 x13_2) = j_ := ⟨_, rfl⟩
            replace H : (if (Int.tmod (ji38) 2) = 1 then (if 0 ≤ (wrap64 ((wrap64 (22 + (wrap64 (rd t107 21)))) + (wrap64 (Int.tdiv (wrap64 ((wrap64 (Int.tmod (IntKind.u64.wrap (a1)) (IntKind.u64.wrap (wrap64 (8 * (wrap64 ((t107.length : Int) - (wrap64 (22 + (wrap64 (rd t107 21))))))))))) + x13_2)) 8)))) then (if (wrap64 ((wrap64 (22 + (wrap64 (rd t107 21)))) + (wrap64 (Int.tdiv (wrap64 ((wrap64 (Int.tmod (IntKind.u64.wrap (a1)) (IntKind.u64.wrap (wrap64 (8 * (wrap64 ((t107.length : Int) - (wrap64 (22 + (wrap64 (rd t107 21))))))))))) + x13_2)) 8)))) < (x8_2.length : Int) then (if 0 ≤ (Int.tmod (wrap64 ((wrap64 (Int.tmod (IntKind.u64.wrap (a1)) (IntKind.u64.wrap (wrap64 (8 * (wrap64 ((t107.length : Int) - (wrap64 (22 + (wrap64 (rd t107 21))))))))))) + x13_2)) 8) then (psalterylaw18_PageTurned.l0 kj33 a2 t104 (x8_2.set ((wrap64 ((wrap64 (22 + (wrap64 (rd t107 21)))) + (wrap64 (Int.tdiv (wrap64 ((wrap64 (Int.tmod (IntKind.u64.wrap (a1)) (IntKind.u64.wrap (wrap64 (8 * (wrap64 ((t107.length : Int) - (wrap64 (22 + (wrap64 (rd t107 21))))))))))) + x13_2)) 8)))) : Int).toNat (Go.bits .xor .u8 (rd x8_2 (wrap64 ((wrap64 (22 + (wrap64 (rd t107 21)))) + (wrap64 (Int.tdiv (wrap64 ((wrap64 (Int.tmod (IntKind.u64.wrap (a1)) (IntKind.u64.wrap (wrap64 (8 * (wrap64 ((t107.length : Int) - (wrap64 (22 + (wrap64 (rd t107 21))))))))))) + x13_2)) 8))))) (shl .u8 1 (Int.tmod (wrap64 ((wrap64 (Int.tmod (IntKind.u64.wrap (a1)) (IntKind.u64.wrap (wrap64 (8 * (wrap64 ((t107.length : Int) - (wrap64 (22 + (wrap64 (rd t107 21))))))))))) + x13_2)) 8)))) (wrap64 (22 + (wrap64 (rd t107 21)))) (wrap64 (Int.tmod (IntKind.u64.wrap (a1)) (IntKind.u64.wrap (wrap64 (8 * (wrap64 ((t107.length : Int) - (wrap64 (22 + (wrap64 (rd t107 21))))))))))) true (wrap64 (x13_2 + 1))) else (none)) else (none)) else (none)) else (psalterylaw18_PageTurned.l0 kj33 a2 t104 x8_2 (wrap64 (22 + (wrap64 (rd t107 21)))) (wrap64 (Int.tmod (IntKind.u64.wrap (a1)) (IntKind.u64.wrap (wrap64 (8 * (wrap64 ((t107.length : Int) - (wrap64 (22 + (wrap64 (rd t107 21))))))))))) x12_2 (wrap64 (x13_2 + 1)))) = some true := by first | (rw [hji38] at H; exact H) | (simp only [hji38] at H ⊢; exact H)
            have hji38_ : (a2 / 2 ^ min x13_2.toNat 32) = ji38 := hji38
            have hji38z : x13_2 ≤ 32 → (a2 / 2 ^ x13_2.toNat) = ji38 := shr_small hji38
            by_cases c39 : (Int.tmod (ji38) 2) = 1
            ·rw [if_pos c39] at H
             have c39b0 : ((Int.tmod (ji38) 2) == 1) = true := beq_iff_eq.mpr c39
             (try simp only [hl8_2] at c39b0)
             have c39b1 : ((Int.tmod (ji38) 2) != 1) = false := bne_eq_false_iff_eq.mpr c39
             (try simp only [hl8_2] at c39b1)
             clear c39
             obtain ⟨ji40, hji40⟩ : ∃ j_ : Int, (wrap64 ((wrap64 (22 + (wrap64 (rd t107 21)))) + (wrap64 (Int.tdiv (wrap64 ((wrap64 (Int.tmod (IntKind.u64.wrap (a1)) (IntKind.u64.wrap (wrap64 (8 * (wrap64 ((t107.length : Int) - (wrap64 (22 + (wrap64 (rd t107 21))))))))))) + x13_2)) 8)))) = j_ := ⟨_, rfl⟩
             replace H : (if 0 ≤ (ji40) then (if (ji40) < (x8_2.length : Int) then (if 0 ≤ (Int.tmod (wrap64 ((wrap64 (Int.tmod (IntKind.u64.wrap (a1)) (IntKind.u64.wrap (wrap64 (8 * (wrap64 ((t107.length : Int) - (wrap64 (22 + (wrap64 (rd t107 21))))))))))) + x13_2)) 8) then (psalterylaw18_PageTurned.l0 kj33 a2 t104 (x8_2.set ((ji40) : Int).toNat (Go.bits .xor .u8 (rd x8_2 (ji40)) (shl .u8 1 (Int.tmod (wrap64 ((wrap64 (Int.tmod (IntKind.u64.wrap (a1)) (IntKind.u64.wrap (wrap64 (8 * (wrap64 ((t107.length : Int) - (wrap64 (22 + (wrap64 (rd t107 21))))))))))) + x13_2)) 8)))) (wrap64 (22 + (wrap64 (rd t107 21)))) (wrap64 (Int.tmod (IntKind.u64.wrap (a1)) (IntKind.u64.wrap (wrap64 (8 * (wrap64 ((t107.length : Int) - (wrap64 (22 + (wrap64 (rd t107 21))))))))))) true (wrap64 (x13_2 + 1))) else (none)) else (none)) else (none)) = some true := by first | (rw [hji40] at H; exact H) | (simp only [hji40] at H ⊢; exact H)
             have hji40c := hji40
             (try simp only [hl8_2] at hji40c)
             have hji40w : (IntKind.i64.wrap ((wrap64 (22 + (wrap64 (rd t107 21)))) + (wrap64 (Int.tdiv (wrap64 ((wrap64 (Int.tmod (IntKind.u64.wrap (a1)) (IntKind.u64.wrap (wrap64 (8 * (wrap64 ((t107.length : Int) - (wrap64 (22 + (wrap64 (rd t107 21))))))))))) + x13_2)) 8)))) = ji40 := (i64_w _).trans hji40
             (try simp only [hl8_2] at hji40w)
             by_cases c41 : 0 ≤ (ji40)
             rotate_left
             ·rw [if_neg c41] at H
              exact absurd H (by simp)
             rw [if_pos c41] at H
             have c41b0 : decide (0 ≤ (ji40)) = true := decide_eq_true c41
             (try simp only [hl8_2] at c41b0)
             clear c41
             by_cases c42 : (ji40) < (x8_2.length : Int)
             rotate_left
             ·rw [if_neg c42] at H
              exact absurd H (by simp)
             rw [if_pos c42] at H
             have c42b0 : decide ((ji40) < (x8_2.length : Int)) = true := decide_eq_true c42
             (try simp only [hl8_2] at c42b0)
             clear c42
             obtain ⟨ji43, hji43⟩ : ∃ j_ : Int, (Int.tmod (wrap64 ((wrap64 (Int.tmod (IntKind.u64.wrap (a1)) (IntKind.u64.wrap (wrap64 (8 * (wrap64 ((t107.length : Int) - (wrap64 (22 + (wrap64 (rd t107 21))))))))))) + x13_2)) 8) = j_ := ⟨_, rfl⟩
             replace H : (if 0 ≤ (ji43) then (psalterylaw18_PageTurned.l0 kj33 a2 t104 (x8_2.set ((ji40) : Int).toNat (Go.bits .xor .u8 (rd x8_2 (ji40)) (shl .u8 1 (ji43)))) (wrap64 (22 + (wrap64 (rd t107 21)))) (wrap64 (Int.tmod (IntKind.u64.wrap (a1)) (IntKind.u64.wrap (wrap64 (8 * (wrap64 ((t107.length : Int) - (wrap64 (22 + (wrap64 (rd t107 21))))))))))) true (wrap64 (x13_2 + 1))) else (none)) = some true := by first | (rw [hji43] at H; exact H) | (simp only [hji43] at H ⊢; exact H)
             have hji43c := hji43
             (try simp only [hl8_2] at hji43c)
             by_cases c44 : 0 ≤ (ji43)
             rotate_left
             ·rw [if_neg c44] at H
              exact absurd H (by simp)
             rw [if_pos c44] at H
             have c44b0 := eq_true c44
             have c44b1 : decide (0 ≤ (ji43)) = true := decide_eq_true c44
             (try simp only [hl8_2] at c44b0)
             (try simp only [hl8_2] at c44b1)
             clear c44
             obtain ⟨ji45, hji45⟩ : ∃ j_ : Int, (shl .u8 1 (ji43)) = j_ := ⟨_, rfl⟩
             replace H : (psalterylaw18_PageTurned.l0 kj33 a2 t104 (x8_2.set ((ji40) : Int).toNat (Go.bits .xor .u8 (rd x8_2 (ji40)) (ji45))) (wrap64 (22 + (wrap64 (rd t107 21)))) (wrap64 (Int.tmod (IntKind.u64.wrap (a1)) (IntKind.u64.wrap (wrap64 (8 * (wrap64 ((t107.length : Int) - (wrap64 (22 + (wrap64 (rd t107 21))))))))))) true (wrap64 (x13_2 + 1))) = some true := by first | (rw [hji45] at H; exact H) | (simp only [hji45] at H ⊢; exact H)
             have hji45_ : (IntKind.u8.wrap (1 * 2 ^ min (ji43).toNat 8)) = ji45 := hji45
             have hji45z : (ji43) ≤ 8 → (IntKind.u8.wrap (1 * 2 ^ (ji43).toNat)) = ji45 := shl_small hji45
             have hji45u : (IntKind.u8.wrap (2 ^ min (ji43).toNat 8)) = ji45 := by have h_ := hji45_; rw [Int.one_mul] at h_; exact h_
             have hji45v : (ji43) ≤ 8 → (IntKind.u8.wrap (2 ^ (ji43).toNat)) = ji45 := fun hle_ => by have h_ := hji45z hle_; rw [Int.one_mul] at h_; exact h_
             obtain ⟨y115, hy115⟩ : ∃ y_ : List Int, y_ = (x8_2.set ((ji40) : Int).toNat (Go.bits .xor .u8 (rd x8_2 (ji40)) (ji45))) := ⟨_, rfl⟩
             replace H : (psalterylaw18_PageTurned.l0 kj33 a2 t104 y115 (wrap64 (22 + (wrap64 (rd t107 21)))) (wrap64 (Int.tmod (IntKind.u64.wrap (a1)) (IntKind.u64.wrap (wrap64 (8 * (wrap64 ((t107.length : Int) - (wrap64 (22 + (wrap64 (rd t107 21))))))))))) true (wrap64 (x13_2 + 1))) = some true := by first | (rw [hy115]; with_reducible exact H) | (have H2_ := (Option.bind_some _ _).symm.trans H; rw [hy115]; with_reducible exact H2_) | (have H2_ := (Option.bind_some _ _).symm.trans H; with_reducible exact H2_) | with_reducible exact H | (rw [hy115]; exact H) | exact H
             have Ny115 := Aside0.mk hy115
             clear hy115
             have H' := Aside0.mk H
             clear H
             try go_wp2
             have n0_ := Aside0.mk (Kd.R_drew HO_7.out)
             have n1_ := Aside0.mk (Kd.R_drew HO_8.out)
             have n2_ := Aside0.mk (blk_drew BK101.out)
             have n3_ := Aside0.mk (below_drew1 HB.out)
             clear HO_7
             clear HO_8
             clear BK101
             clear HB
             have HO_7 := n0_
             have HO_8 := n1_
             have BK101 := n2_
             have HB := n3_
             clear n0_ n1_ n2_ n3_
             have p114 : 0 ≤ ((ji40) : Int) := of_decide_eq_true (by first | (with_reducible assumption) | assumption)
             have q114 : (ji40) < (x8_2.length : Int) := of_decide_eq_true (by first | (with_reducible assumption) | assumption)
             obtain ⟨ad114, e114, hx114_0⟩ := Kd.at_int (Kd.R_reads' HO_8.out).2.2 (ji40) p114 q114
             obtain rfl : ad112 = ad114 := (by injection e114)
             replace p114 := eq_true p114
             replace q114 := eq_true q114
             have p46 : 0 ≤ ((ji40) : Int) := of_decide_eq_true (by first | (with_reducible assumption) | assumption)
             have q46 : ((ji40) : Int) < ((x8_2.length : Int) : Int) := of_decide_eq_true (by first | (with_reducible assumption) | assumption)
             obtain ⟨go46, co46, eo46, gb46, gl46, cl46, HG46⟩ := Kd.R_form HO_8.out (by omega)
             (first | cases eo46 | (injection eo46 with ea_ en_ ec_; (first | subst ea_ | (injection ea_ with ea_; subst ea_)); subst ec_; clear en_))
             have GB46 := Aside0.mk gb46
             have GG46 := Aside0.mk HG46
             clear gb46 gl46 HG46
             (first | simp only [add_plain] at hx112_0 | skip)
             (first | simp only [add_plain] at hx114_0 | skip)
             obtain ⟨hx46_0, hf46_0⟩ := Kd.R_celln 0 HO_8.out ((ji40) : Int) p46 q46
             replace p46 := eq_true p46
             replace q46 := eq_true q46
             have HP48 := Kd.R_putn HO_8.out ((ji40) : Int) (Go.bits .xor .u8 (rd x8_2 (ji40)) (ji45))
             rw [← Ny115.out] at HP48
             have HQ48 := Aside0.mk HP48
             clear HP48
             refine start_ (n := 14) (S := fun w' => w'.cell? ⟨go46, ((ji40)).toNat, none⟩ = some (.int .u8 (rd x8_2 (ji40)))) (ds := [13]) #[false, false, false, false, false, false, false, false, false, false, false, false, false, false] (by kernel_rfl) rfl rfl (hx114_0) (fun hHeld => ?_); refine with_tabW psalterylaw18_PageTurned.tab17 psalterylaw18_PageTurned.bits17 (fun HT_ HW_ => ?_)
             generalize wc.drew = w47 at HO_7 HO_8 BK101 HB GG46 HQ48 hf46_0 hx114_0 hx46_0 hHeld ⊢
             refine pure_ (i := 0) (N := some 86) (v := ?_) (a' := ?_) #[true, false, false, false, false, false, false, false, false, false, false, false, false, false] rfl rfl (any_of HT_.out (by kernel_rfl)) (fun _ _ _ h => h) (Or.inl ⟨by rfl, ?_⟩) ?_ ?_
             rotate_left
             ·intro w'
              go_simp
              with_reducible rfl
             rotate_left
             ·simp only [Act.put, List.setIfInBounds_toArray, List.set_cons_zero, List.set_cons_succ, i64_w, i32_w]
              rfl
             refine pure_ (i := 1) (N := some 87) (v := ?_) (a' := ?_) #[true, true, false, false, false, false, false, false, false, false, false, false, false, false] rfl rfl (any_of HT_.out (by kernel_rfl)) (fun _ _ _ h => h) (Or.inl ⟨by rfl, ?_⟩) ?_ ?_
             rotate_left
             ·intro w'
              go_simp
              with_reducible rfl
             rotate_left
             ·simp only [Act.put, List.setIfInBounds_toArray, List.set_cons_zero, List.set_cons_succ, i64_w, i32_w]
              rfl
             refine pure_ (i := 2) (N := some 88) (v := ?_) (a' := ?_) #[true, true, true, false, false, false, false, false, false, false, false, false, false, false] rfl rfl (any_of HT_.out (by kernel_rfl)) (fun _ _ _ h => h) (Or.inl ⟨by rfl, ?_⟩) ?_ ?_
             rotate_left
             ·intro w'
              go_simp
              with_reducible rfl
             rotate_left
             ·simp only [Act.put, List.setIfInBounds_toArray, List.set_cons_zero, List.set_cons_succ, i64_w, i32_w]
              rfl
             refine pure_ (i := 3) (N := some 89) (v := ?_) (a' := ?_) #[true, true, true, true, false, false, false, false, false, false, false, false, false, false] rfl rfl (any_of HT_.out (by kernel_rfl)) (fun _ _ _ h => h) (Or.inl ⟨by rfl, ?_⟩) ?_ ?_
             rotate_left
             ·intro w'
              go_simp
              with_reducible rfl
             rotate_left
             ·simp only [Act.put, List.setIfInBounds_toArray, List.set_cons_zero, List.set_cons_succ, i64_w, i32_w]
              rfl
             refine pure_ (i := 4) (N := some 90) (v := ?_) (a' := ?_) #[true, true, true, true, true, false, false, false, false, false, false, false, false, false] rfl rfl (any_of HT_.out (by kernel_rfl)) (fun _ _ _ h => h) (Or.inl ⟨by rfl, ?_⟩) ?_ ?_
             rotate_left
             ·intro w'
              go_simp
              with_reducible rfl
             rotate_left
             ·simp only [Act.put, List.setIfInBounds_toArray, List.set_cons_zero, List.set_cons_succ, i64_w, i32_w]
              rfl
             refine pure_ (i := 6) (N := some 92) (v := ?_) (a' := ?_) #[true, true, true, true, true, false, true, false, false, false, false, false, false, false] rfl rfl (any_of HT_.out (by kernel_rfl)) (fun _ _ _ h => h) (Or.inl ⟨by rfl, ?_⟩) ?_ ?_
             rotate_left
             ·intro w'
              go_simp
              with_reducible rfl
             rotate_left
             ·simp only [Act.put, List.setIfInBounds_toArray, List.set_cons_zero, List.set_cons_succ, i64_w, i32_w]
              rfl
             refine pure_ (i := 7) (N := some 93) (v := ?_) (a' := ?_) #[true, true, true, true, true, false, true, true, false, false, false, false, false, false] rfl rfl (any_of HT_.out (by kernel_rfl)) (fun _ _ _ h => h) (Or.inl ⟨by rfl, ?_⟩) ?_ ?_
             rotate_left
             ·intro w'
              go_simp
              with_reducible rfl
             rotate_left
             ·simp only [Act.put, List.setIfInBounds_toArray, List.set_cons_zero, List.set_cons_succ, i64_w, i32_w]
              rfl
             refine pure_ (i := 8) (N := some 94) (v := ?_) (a' := ?_) #[true, true, true, true, true, false, true, true, true, false, false, false, false, false] rfl rfl (any_of HT_.out (by kernel_rfl)) (fun _ _ _ h => h) (Or.inl ⟨by rfl, ?_⟩) ?_ ?_
             rotate_left
             ·intro w'
              go_simp
              with_reducible rfl
             rotate_left
             ·simp only [Act.put, List.setIfInBounds_toArray, List.set_cons_zero, List.set_cons_succ, i64_w, i32_w]
              rfl
             refine pure_ (i := 9) (N := some 95) (v := ?_) (a' := ?_) #[true, true, true, true, true, false, true, true, true, true, false, false, false, false] rfl rfl (any_of HT_.out (by kernel_rfl)) (fun _ _ _ h => h) (Or.inl ⟨by rfl, ?_⟩) ?_ ?_
             rotate_left
             ·intro w'
              go_simp
              with_reducible rfl
             rotate_left
             ·simp only [Act.put, List.setIfInBounds_toArray, List.set_cons_zero, List.set_cons_succ, i64_w, i32_w]
              rfl
             refine pure_ (i := 10) (N := some 96) (v := ?_) (a' := ?_) #[true, true, true, true, true, false, true, true, true, true, true, false, false, false] rfl rfl (any_of HT_.out (by kernel_rfl)) (fun _ _ _ h => h) (Or.inl ⟨by rfl, ?_⟩) ?_ ?_
             rotate_left
             ·intro w'
              go_simp
              with_reducible rfl
             rotate_left
             ·simp only [Act.put, List.setIfInBounds_toArray, List.set_cons_zero, List.set_cons_succ, i64_w, i32_w]
              rfl
             refine take_ (i := 5) (N := some 91) (v := ?_) (a' := ?_) #[true, true, true, true, true, true, true, true, true, true, true, false, false, false] rfl rfl (take_ofW HT_.out HW_.out (by kernel_rfl)) (fun _ _ _ h => h) (Or.inl ⟨by rfl, ?_⟩) hHeld ?_ ?_
             rotate_left
             ·intro w' s0
              go_simp
              with_reducible rfl
             rotate_left
             ·simp only [Act.put, List.setIfInBounds_toArray, List.set_cons_zero, List.set_cons_succ, i64_w, i32_w]
              rfl
             refine pure_ (i := 11) (N := some 97) (v := ?_) (a' := ?_) #[true, true, true, true, true, true, true, true, true, true, true, true, false, false] rfl rfl (any_of HT_.out (by kernel_rfl)) (fun _ _ _ h => h) (Or.inl ⟨by rfl, ?_⟩) ?_ ?_
             rotate_left
             ·intro w'
              go_simp
              with_reducible rfl
             rotate_left
             ·simp only [Act.put, List.setIfInBounds_toArray, List.set_cons_zero, List.set_cons_succ, i64_w, i32_w]
              rfl
             refine pure_ (i := 12) (N := some 98) (v := ?_) (a' := ?_) #[true, true, true, true, true, true, true, true, true, true, true, true, true, false] rfl rfl (any_of HT_.out (by kernel_rfl)) (fun _ _ _ h => h) (Or.inl ⟨by rfl, ?_⟩) ?_ ?_
             rotate_left
             ·intro w'
              go_simp
              with_reducible rfl
             rotate_left
             ·simp only [Act.put, List.setIfInBounds_toArray, List.set_cons_zero, List.set_cons_succ, i64_w, i32_w]
              rfl
             refine last_ (i := 13) (N := none) #[true, true, true, true, true, true, true, true, true, true, true, true, true, true] rfl rfl (one_of HT_.out (by kernel_rfl)) (by decide) (fun K hK => ?_)
             refine skip_ (w1 := ?_) (by rfl) rfl ?_ ?_
             rotate_left
             ·go_simp
              rfl
             refine hK.out _ _ ?_
             clear hK K
             refine done_ (done_of HT_.out (by kernel_rfl)) ?_
             try go_wp2
             (try simp only [← hl8_2])
             go_roundg kj33
             case measure => have := HJ12.out; have := HK2.out; have := HJ33.out; omega
             case rel => exact ⟨(y115), (true), (wrap64 (x13_2 + 1)), (by first | rfl | (simp; done) | (simp [*]; done)), (by first | rfl | (simp; done) | (simp [*]; done)), H', ⟨by have := HJ12.out; have := HK2.out; have := HJ33.out; omega⟩, ⟨by (try simp only [hl8_2]); (with_reducible repeat (first | apply Kd.R_alloc | apply Kd.R_drewN | apply Kd.R_drew)); exact Kd.R_mono (Kd.R_far (p := ⟨go46, ((ji40) : Int).toNat, none⟩) (Kd.R_types HO_7.out GG46.out (by decide)) (fun _ hk => hk.2) (.int .u8 (Go.bits .xor .u8 (rd x8_2 (ji40)) (ji45)))) (fun _ hk => trivial)⟩, ⟨by (try simp only [hl8_2]); (with_reducible repeat (first | apply Kd.R_alloc | apply Kd.R_drewN | apply Kd.R_drew)); exact HQ48.out⟩, ⟨by (try simp only [hl8_2]); (with_reducible repeat (first | refine blk_drewN ?_ _ | refine blk_drew ?_ | refine blk_alloc ?_ _)); refine blk_far ?_ (by have h_ := Kd.R_ne HO_8.out BK101.out (by decide); intro e_; exact h_ (by rw [e_]; rfl)) _; (with_reducible repeat (first | refine blk_drewN ?_ _ | refine blk_drew ?_ | refine blk_alloc ?_ _)); exact BK101.out⟩, ⟨by repeat (first | (with_reducible first | exact HB.out | apply below_alloc | apply pw_below_drewN | apply below_drew1 | refine below_set ?_ GB46.out | refine below_set ?_ GE101.out) | exact HB.out)⟩⟩
            ·rw [if_neg c39] at H
             have c39b0 : ((Int.tmod (ji38) 2) == 1) = false := beq_eq_false_iff_ne.mpr c39
             (try simp only [hl8_2] at c39b0)
             have c39b1 : ((Int.tmod (ji38) 2) != 1) = true := bne_iff_ne.mpr c39
             (try simp only [hl8_2] at c39b1)
             have H' := Aside0.mk H
             clear H
             go_wp2
             (try simp only [← hl8_2])
             go_roundg kj33
             case measure => have := HJ12.out; have := HK2.out; have := HJ33.out; omega
             case rel => exact ⟨(x8_2), (x12_2), (wrap64 (x13_2 + 1)), (by first | rfl | (simp; done) | (simp [*]; done)), (by first | rfl | (simp; done) | (simp [*]; done)), H', ⟨by have := HJ12.out; have := HK2.out; have := HJ33.out; omega⟩, ⟨by (try simp only [hl8_2]); (with_reducible repeat (first | apply Kd.R_alloc | apply Kd.R_drewN | apply Kd.R_drew)); exact HO_7.out⟩, ⟨by (try simp only [hl8_2]); (with_reducible repeat (first | apply Kd.R_alloc | apply Kd.R_drewN | apply Kd.R_drew)); exact HO_8.out⟩, ⟨by (try simp only [hl8_2]); (with_reducible repeat (first | refine blk_drewN ?_ _ | refine blk_drew ?_ | refine blk_alloc ?_ _)); exact BK101.out⟩, ⟨by repeat (first | (with_reducible first | exact HB.out | apply below_alloc | apply pw_below_drewN | apply below_drew1 | refine below_set ?_ GE101.out) | exact HB.out)⟩⟩
           ·replace c36 := Bool.eq_false_iff.mpr c36
            subst c36
            have H1 : (if x12_2 = true then ((page_Read.f t104 x8_2).bind fun bt117 => ((psalterylaw18_As.f bt117.1 bt117.2.1 bt117.2.2.1 bt117.2.2.2.1 bt117.2.2.2.2.1 bt117.2.2.2.2.2.1 bt117.2.2.2.2.2.2.1).bind fun _ => ((psalteryref18_Same.f bt117.1 bt117.2.1 bt117.2.2.1 bt117.2.2.2.1 bt117.2.2.2.2.1 bt117.2.2.2.2.2.1 bt117.2.2.2.2.2.2.1 0 0 false false false false ([] : List (List Int))).bind fun t129 => (if t129 = true then (if bt117.2.2.2.2.2.2.2.1 = 0 then (if bt117.2.2.2.2.2.2.2.2 = 6 then ((psalterylaw18_knows.f).bind fun t130 => (some t130)) else (some false)) else (some false)) else (some false))))) else ((psalterylaw18_knows.f).bind fun t116 => (some t116))) = some true := by rw [if_neg (show ¬ (false = true) by decide)] at H; exact H
            clear H
            have H := H1
            clear H1
            by_cases c49 : x12_2 = true
            ·subst c49
             have H1 : ((page_Read.f t104 x8_2).bind fun bt117 => ((psalterylaw18_As.f bt117.1 bt117.2.1 bt117.2.2.1 bt117.2.2.2.1 bt117.2.2.2.2.1 bt117.2.2.2.2.2.1 bt117.2.2.2.2.2.2.1).bind fun _ => ((psalteryref18_Same.f bt117.1 bt117.2.1 bt117.2.2.1 bt117.2.2.2.1 bt117.2.2.2.2.1 bt117.2.2.2.2.2.1 bt117.2.2.2.2.2.2.1 0 0 false false false false ([] : List (List Int))).bind fun t129 => (if t129 = true then (if bt117.2.2.2.2.2.2.2.1 = 0 then (if bt117.2.2.2.2.2.2.2.2 = 6 then ((psalterylaw18_knows.f).bind fun t130 => (some t130)) else (some false)) else (some false)) else (some false))))) = some true := by rw [if_pos rfl] at H; exact H
             clear H
             have H := H1
             clear H1
             replace H := Option.bind_eq_some_iff.mp H
             obtain ⟨⟨t117, t118, t119, t120, t121, t122, t123, t126, t127⟩, A500, H⟩ := H
             replace H : ((psalterylaw18_As.f t117 t118 t119 t120 t121 t122 t123).bind fun _ => ((psalteryref18_Same.f t117 t118 t119 t120 t121 t122 t123 0 0 false false false false ([] : List (List Int))).bind fun t129 => (if t129 = true then (if t126 = 0 then (if t127 = 6 then ((psalterylaw18_knows.f).bind fun t130 => (some t130)) else (some false)) else (some false)) else (some false)))) = some true := H
             have A50 := Aside0.mk A500
             clear A500
             replace H := Option.bind_eq_some_iff.mp H
             obtain ⟨_, A510, H⟩ := H
             replace H : ((psalteryref18_Same.f t117 t118 t119 t120 t121 t122 t123 0 0 false false false false ([] : List (List Int))).bind fun t129 => (if t129 = true then (if t126 = 0 then (if t127 = 6 then ((psalterylaw18_knows.f).bind fun t130 => (some t130)) else (some false)) else (some false)) else (some false))) = some true := H
             have A51 := Aside0.mk A510
             clear A510
             replace H := Option.bind_eq_some_iff.mp H
             obtain ⟨t129, A520, H⟩ := H
             replace H : (if t129 = true then (if t126 = 0 then (if t127 = 6 then ((psalterylaw18_knows.f).bind fun t130 => (some t130)) else (some false)) else (some false)) else (some false)) = some true := H
             have A52 := Aside0.mk A520
             clear A520
             by_cases c53 : t129 = true
             ·subst c53
              have H1 : (if t126 = 0 then (if t127 = 6 then ((psalterylaw18_knows.f).bind fun t130 => (some t130)) else (some false)) else (some false)) = some true := by rw [if_pos rfl] at H; exact H
              clear H
              have H := H1
              clear H1
              by_cases c54 : t126 = 0
              rotate_left
              ·rw [if_neg c54] at H
               exact absurd H (by simp)
              rw [if_pos c54] at H
              have c54b0 : (t126 == 0) = true := beq_iff_eq.mpr c54
              (try simp only [hl8_2] at c54b0)
              have c54b1 : (t126 != 0) = false := bne_eq_false_iff_eq.mpr c54
              (try simp only [hl8_2] at c54b1)
              clear c54
              by_cases c55 : t127 = 6
              rotate_left
              ·rw [if_neg c55] at H
               exact absurd H (by simp)
              rw [if_pos c55] at H
              have c55b0 : (t127 == 6) = true := beq_iff_eq.mpr c55
              (try simp only [hl8_2] at c55b0)
              have c55b1 : (t127 != 6) = false := bne_eq_false_iff_eq.mpr c55
              (try simp only [hl8_2] at c55b1)
              clear c55
              replace H := Option.bind_eq_some_iff.mp H
              obtain ⟨t130, A560, H⟩ := H
              replace H : (some t130) = some true := H
              have A56 := Aside0.mk A560
              clear A560
              obtain rfl := Option.some.inj H
              go_wp2_with (first | ((with_reducible refine gate_callee (f := 35) rfl ?_); refine goesL_ (some 105) rfl rfl Try.func35 (by kernel_rfl) rfl #[.slice Ao19 t104.length co19, .slice (some ad112) x8_2.length co33] rfl (by (try simp only [List.map_toArray, List.map_cons, List.map_nil]); first | done | rfl | (simp only [List.length_drop, List.length_take]; rfl)) ?_; (with_reducible refine (page_Read.calls _ _ t104 _ _ x8_2 t117 t118 t119 t120 t121 t122 t123 t126 t127 _ ?side1 ?side2 ?side3 ?side4 A50.out).mono ?_); (case side1 => repeat (first | exact (Kd.R_reads' HO_7.out).2.2 | (with_reducible refine Kd.C_alloc ?_ _) | (with_reducible refine Kd.C_drewN ?_ _) | (with_reducible refine Kd.C_drew ?_))); (case side2 => exact (Kd.R_reads' HO_7.out).2.1); (case side3 => repeat (first | exact (Kd.R_reads' HO_8.out).2.2 | (with_reducible refine Kd.C_alloc ?_ _) | (with_reducible refine Kd.C_drewN ?_ _) | (with_reducible refine Kd.C_drew ?_))); (case side4 => exact (Kd.R_reads' HO_8.out).2.1); rintro e w57 ⟨v124, rfl, ho0, hb⟩; refine ⟨_, rfl, ?_⟩; have n0_ := Aside0.mk (Kd.R_below (by (with_reducible repeat (first | apply Kd.R_alloc | apply Kd.R_drewN | apply Kd.R_drew)); exact HO_7.out) hb); have n1_ := Aside0.mk (Kd.R_below (by (with_reducible repeat (first | apply Kd.R_alloc | apply Kd.R_drewN | apply Kd.R_drew)); exact HO_8.out) hb); have n2_ := Aside0.mk (Kd.S_lower (Kd.S_new' ho0 (Kd.R_lt (by (with_reducible repeat (first | apply Kd.R_alloc | apply Kd.R_drewN | apply Kd.R_drew)); exact HO_8.out))) (below_size (by repeat (first | (with_reducible first | exact HB.out | apply below_alloc | apply pw_below_drewN | apply below_drew1 | refine below_set ?_ GE101.out) | exact HB.out)))); have n3_ := Aside0.mk (blk_below (g := gb101) (o := .cells #[.int .i64 a0_0, .int .i64 a0_1, .bool a0_2, .bool a0_3, .bool a0_4, .bool a0_5, .slice A0_6 l0_6.length c0_6] 43 (0, 0)) (by (with_reducible repeat (first | refine blk_drewN ?_ _ | refine blk_drew ?_ | refine blk_alloc ?_ _)); exact BK101.out) hb); have n4_ := Aside0.mk (below_step (by repeat (first | (with_reducible first | exact HB.out | apply below_alloc | apply pw_below_drewN | apply below_drew1 | refine below_set ?_ GE101.out) | exact HB.out)) hb); clear HO_7; clear HO_8; clear BK101; clear HB; have HO_7 := n0_; have HO_8 := n1_; have HO125 := n2_; have BK101 := n3_; have HB := n4_; clear n0_ n1_ n2_ n3_ n4_; (try clear hb); (try clear hb2); (try clear hk); (try clear hi); (try clear ho0)) | ((with_reducible refine gate_dst (N := 15) rfl ?_); (try (refine gate_guard (by rfl) ?_; dsimp only)); refine box_event ?hg (N := 15) ?hd (cs := #[.int .i64 0, .int .i64 0, .bool false, .bool false, .bool false, .bool false, .slice none 0 0]) (t := 43) ?hr ?_; (case hd => rfl); (case hg => rfl); (case hr => first | (go_simp; done) | (go_simp; rfl)); intro gb128 hg w58 hbox hb; have n0_ := Aside0.mk (Kd.R_below (by (with_reducible repeat (first | apply Kd.R_alloc | apply Kd.R_drewN | apply Kd.R_drew)); exact HO_7.out) hb); have n1_ := Aside0.mk (Kd.R_below (by (with_reducible repeat (first | apply Kd.R_alloc | apply Kd.R_drewN | apply Kd.R_drew)); exact HO_8.out) hb); have n2_ := Aside0.mk (Kd.S_below (by (with_reducible repeat (first | apply Kd.S_alloc | apply Kd.S_drewN | apply Kd.S_drew)); exact HO125.out) hb); have n3_ := Aside0.mk (blk_below (g := gb101) (o := .cells #[.int .i64 a0_0, .int .i64 a0_1, .bool a0_2, .bool a0_3, .bool a0_4, .bool a0_5, .slice A0_6 l0_6.length c0_6] 43 (0, 0)) (by (with_reducible repeat (first | refine blk_drewN ?_ _ | refine blk_drew ?_ | refine blk_alloc ?_ _)); exact BK101.out) hb); have n4_ := Aside0.mk (below_step (by repeat (first | (with_reducible first | exact HB.out | apply below_alloc | apply pw_below_drewN | apply below_drew1 | refine below_set ?_ GE101.out) | exact HB.out)) hb); have n5_ := Aside0.mk (hbox); have n6_ := Aside0.mk ((by rw [hg]; exact (below_size (by repeat (first | (with_reducible first | exact HB.out | apply below_alloc | apply pw_below_drewN | apply below_drew1 | refine below_set ?_ GE101.out) | exact HB.out))) : w.heap.size ≤ gb128)); have n7_ := Aside0.mk ((by rw [hg]; exact (below_size (by repeat (first | (with_reducible first | exact HB.out | apply below_alloc | apply pw_below_drewN | apply below_drew1 | refine below_set ?_ GE101.out) | exact HB.out))) : w.heap.size ≤ gb128)); have n8_ := Aside0.mk ((by rw [hg]; exact Nat.ne_of_lt (blk_lt (g := gb101) (o := .cells #[.int .i64 a0_0, .int .i64 a0_1, .bool a0_2, .bool a0_3, .bool a0_4, .bool a0_5, .slice A0_6 l0_6.length c0_6] 43 (0, 0)) (by (with_reducible repeat (first | refine blk_drewN ?_ _ | refine blk_drew ?_ | refine blk_alloc ?_ _)); exact BK101.out)) : gb101 ≠ gb128)); have n9_ := Aside0.mk ((by rw [hg]; exact Nat.ne_of_gt (blk_lt (g := gb101) (o := .cells #[.int .i64 a0_0, .int .i64 a0_1, .bool a0_2, .bool a0_3, .bool a0_4, .bool a0_5, .slice A0_6 l0_6.length c0_6] 43 (0, 0)) (by (with_reducible repeat (first | refine blk_drewN ?_ _ | refine blk_drew ?_ | refine blk_alloc ?_ _)); exact BK101.out)) : gb128 ≠ gb101)); clear HO_7; clear HO_8; clear HO125; clear BK101; clear HB; have HO_7 := n0_; have HO_8 := n1_; have HO125 := n2_; have BK101 := n3_; have HB := n4_; have BK128 := n5_; have GW128 := n6_; have GE128 := n7_; have NB101_128 := n8_; have NB128_101 := n9_; clear n0_ n1_ n2_ n3_ n4_ n5_ n6_ n7_ n8_ n9_; clear hb hbox hg; have hnb59 := NB128_101.out; have hnc59 := NB101_128.out; have hcz60_0 : w58.cell? ⟨gb128, 0, none⟩ = some (.int .i64 0) := (blk_cell BK128.out 0).trans rfl; have hcz60_1 : w58.cell? ⟨gb128, 1, none⟩ = some (.int .i64 0) := (blk_cell BK128.out 1).trans rfl; have hcz60_2 : w58.cell? ⟨gb128, 2, none⟩ = some (.bool false) := (blk_cell BK128.out 2).trans rfl; have hcz60_3 : w58.cell? ⟨gb128, 3, none⟩ = some (.bool false) := (blk_cell BK128.out 3).trans rfl; have hcz60_4 : w58.cell? ⟨gb128, 4, none⟩ = some (.bool false) := (blk_cell BK128.out 4).trans rfl; have hcz60_5 : w58.cell? ⟨gb128, 5, none⟩ = some (.bool false) := (by first | exact (blk_cell BK128.out 5).trans rfl | (refine (blk_cell BK128.out 5).trans ?_; show some (Value.bool _) = some (Value.bool _); congr 2; first | (with_reducible assumption) | exact Eq.symm (Aside0.out (by with_reducible assumption)))); have hcz60_6 : w58.cell? ⟨gb128, 6, none⟩ = some (.slice none 0 0) := (blk_cell BK128.out 6).trans rfl; have hfz60_0 := blk_frozen BK128.out 0; have hfz60_1 := blk_frozen BK128.out 1; have hfz60_2 := blk_frozen BK128.out 2; have hfz60_3 := blk_frozen BK128.out 3; have hfz60_4 := blk_frozen BK128.out 4; have hfz60_5 := blk_frozen BK128.out 5; have hfz60_6 := blk_frozen BK128.out 6; obtain ⟨Ao61, co61, eo61⟩ := Kd.S_slice HO125.out; subst eo61) | ((with_reducible refine gate_callee (f := 37) rfl ?_); refine goesL_ (some 110) rfl rfl Try.func37 (by kernel_rfl) rfl #[.agg #[.int .i64 t117, .int .i64 t118, .bool t119, .bool t120, .bool t121, .bool t122, .slice Ao61 t123.length co61]] rfl (by (try simp only [List.map_toArray, List.map_cons, List.map_nil]); first | done | rfl | (simp only [List.length_drop, List.length_take]; rfl)) ?_; (with_reducible refine (psalterylaw18_As.calls t117 t118 t119 t120 t121 t122 _ _ t123  _ ?side1 ?side2 A51.out).mono ?_); (case side1 => refine (Kd.S_reads' (e := 28) (base := w.heap.size) (ok := fun k_ => (True ∧ some k_ ≠ (.slice (some ad112) x8_2.length co33 : Value).ownBlock)) (n := t123.length) (c := co61) ?_).2.2; exact (by (with_reducible repeat (first | apply Kd.S_alloc | apply Kd.S_drewN | apply Kd.S_drew)); exact (Kd.S_mono (Kd.S_far (p := ⟨gb128, 6, none⟩) (Kd.S_far (p := ⟨gb128, 5, none⟩) (Kd.S_far (p := ⟨gb128, 4, none⟩) (Kd.S_far (p := ⟨gb128, 3, none⟩) (Kd.S_far (p := ⟨gb128, 2, none⟩) (Kd.S_far (p := ⟨gb128, 1, none⟩) (Kd.S_far (p := ⟨gb128, 0, none⟩) (Kd.S_types HO125.out BK128.out (by decide)) (fun _ hk => hk.2) (.int .i64 t117)) (fun _ hk => hk.2) (.int .i64 t118)) (fun _ hk => hk.2) (.bool t119)) (fun _ hk => hk.2) (.bool t120)) (fun _ hk => hk.2) (.bool t121)) (fun _ hk => hk.2) (.bool t122)) (fun _ hk => hk.2) (.slice Ao61 t123.length co61)) (fun _ h_ => h_.1)))); (case side2 => exact (Kd.S_reads' HO125.out).2.1); rintro e w62 ⟨rfl, hb⟩; refine ⟨_, rfl, ?_⟩; have n0_ := Aside0.mk (Kd.R_below (by (with_reducible repeat (first | apply Kd.R_alloc | apply Kd.R_drewN | apply Kd.R_drew)); exact (Kd.R_mono (Kd.R_far (p := ⟨gb128, 6, none⟩) (Kd.R_far (p := ⟨gb128, 5, none⟩) (Kd.R_far (p := ⟨gb128, 4, none⟩) (Kd.R_far (p := ⟨gb128, 3, none⟩) (Kd.R_far (p := ⟨gb128, 2, none⟩) (Kd.R_far (p := ⟨gb128, 1, none⟩) (Kd.R_far (p := ⟨gb128, 0, none⟩) (Kd.R_types HO_7.out BK128.out (by decide)) (fun _ hk => hk.2) (.int .i64 t117)) (fun _ hk => hk.2) (.int .i64 t118)) (fun _ hk => hk.2) (.bool t119)) (fun _ hk => hk.2) (.bool t120)) (fun _ hk => hk.2) (.bool t121)) (fun _ hk => hk.2) (.bool t122)) (fun _ hk => hk.2) (.slice Ao61 t123.length co61)) (fun _ h_ => h_.1))) hb); have n1_ := Aside0.mk (Kd.R_below (by (with_reducible repeat (first | apply Kd.R_alloc | apply Kd.R_drewN | apply Kd.R_drew)); exact (Kd.R_mono (Kd.R_far (p := ⟨gb128, 6, none⟩) (Kd.R_far (p := ⟨gb128, 5, none⟩) (Kd.R_far (p := ⟨gb128, 4, none⟩) (Kd.R_far (p := ⟨gb128, 3, none⟩) (Kd.R_far (p := ⟨gb128, 2, none⟩) (Kd.R_far (p := ⟨gb128, 1, none⟩) (Kd.R_far (p := ⟨gb128, 0, none⟩) (Kd.R_types HO_8.out BK128.out (by decide)) (fun _ hk => hk.2) (.int .i64 t117)) (fun _ hk => hk.2) (.int .i64 t118)) (fun _ hk => hk.2) (.bool t119)) (fun _ hk => hk.2) (.bool t120)) (fun _ hk => hk.2) (.bool t121)) (fun _ hk => hk.2) (.bool t122)) (fun _ hk => hk.2) (.slice Ao61 t123.length co61)) (fun _ h_ => h_.1))) hb); have n2_ := Aside0.mk (Kd.S_below (by (with_reducible repeat (first | apply Kd.S_alloc | apply Kd.S_drewN | apply Kd.S_drew)); exact (Kd.S_mono (Kd.S_far (p := ⟨gb128, 6, none⟩) (Kd.S_far (p := ⟨gb128, 5, none⟩) (Kd.S_far (p := ⟨gb128, 4, none⟩) (Kd.S_far (p := ⟨gb128, 3, none⟩) (Kd.S_far (p := ⟨gb128, 2, none⟩) (Kd.S_far (p := ⟨gb128, 1, none⟩) (Kd.S_far (p := ⟨gb128, 0, none⟩) (Kd.S_types HO125.out BK128.out (by decide)) (fun _ hk => hk.2) (.int .i64 t117)) (fun _ hk => hk.2) (.int .i64 t118)) (fun _ hk => hk.2) (.bool t119)) (fun _ hk => hk.2) (.bool t120)) (fun _ hk => hk.2) (.bool t121)) (fun _ hk => hk.2) (.bool t122)) (fun _ hk => hk.2) (.slice Ao61 t123.length co61)) (fun _ h_ => h_.1))) hb); have n3_ := Aside0.mk (blk_below (g := gb101) (o := .cells #[.int .i64 a0_0, .int .i64 a0_1, .bool a0_2, .bool a0_3, .bool a0_4, .bool a0_5, .slice A0_6 l0_6.length c0_6] 43 (0, 0)) (by (with_reducible repeat (first | refine blk_drewN ?_ _ | refine blk_drew ?_ | refine blk_alloc ?_ _)); refine blk_far ?_ NB101_128.out _; (with_reducible repeat (first | refine blk_drewN ?_ _ | refine blk_drew ?_ | refine blk_alloc ?_ _)); refine blk_far ?_ NB101_128.out _; (with_reducible repeat (first | refine blk_drewN ?_ _ | refine blk_drew ?_ | refine blk_alloc ?_ _)); refine blk_far ?_ NB101_128.out _; (with_reducible repeat (first | refine blk_drewN ?_ _ | refine blk_drew ?_ | refine blk_alloc ?_ _)); refine blk_far ?_ NB101_128.out _; (with_reducible repeat (first | refine blk_drewN ?_ _ | refine blk_drew ?_ | refine blk_alloc ?_ _)); refine blk_far ?_ NB101_128.out _; (with_reducible repeat (first | refine blk_drewN ?_ _ | refine blk_drew ?_ | refine blk_alloc ?_ _)); refine blk_far ?_ NB101_128.out _; (with_reducible repeat (first | refine blk_drewN ?_ _ | refine blk_drew ?_ | refine blk_alloc ?_ _)); refine blk_far ?_ NB101_128.out _; (with_reducible repeat (first | refine blk_drewN ?_ _ | refine blk_drew ?_ | refine blk_alloc ?_ _)); exact BK101.out) hb); have n4_ := Aside0.mk (blk_below (g := gb128) (o := .cells #[.int .i64 t117, .int .i64 t118, .bool t119, .bool t120, .bool t121, .bool t122, .slice Ao61 t123.length co61] 43 (0, 0)) (by (with_reducible repeat (first | refine blk_drewN ?_ _ | refine blk_drew ?_ | refine blk_alloc ?_ _)); refine blk_put (cs := #[.int .i64 t117, .int .i64 t118, .bool t119, .bool t120, .bool t121, .bool t122, .slice none 0 0]) ?_ 6 _ rfl; (with_reducible repeat (first | refine blk_drewN ?_ _ | refine blk_drew ?_ | refine blk_alloc ?_ _)); refine blk_put (cs := #[.int .i64 t117, .int .i64 t118, .bool t119, .bool t120, .bool t121, .bool false, .slice none 0 0]) ?_ 5 _ rfl; (with_reducible repeat (first | refine blk_drewN ?_ _ | refine blk_drew ?_ | refine blk_alloc ?_ _)); refine blk_put (cs := #[.int .i64 t117, .int .i64 t118, .bool t119, .bool t120, .bool false, .bool false, .slice none 0 0]) ?_ 4 _ rfl; (with_reducible repeat (first | refine blk_drewN ?_ _ | refine blk_drew ?_ | refine blk_alloc ?_ _)); refine blk_put (cs := #[.int .i64 t117, .int .i64 t118, .bool t119, .bool false, .bool false, .bool false, .slice none 0 0]) ?_ 3 _ rfl; (with_reducible repeat (first | refine blk_drewN ?_ _ | refine blk_drew ?_ | refine blk_alloc ?_ _)); refine blk_put (cs := #[.int .i64 t117, .int .i64 t118, .bool false, .bool false, .bool false, .bool false, .slice none 0 0]) ?_ 2 _ rfl; (with_reducible repeat (first | refine blk_drewN ?_ _ | refine blk_drew ?_ | refine blk_alloc ?_ _)); refine blk_put (cs := #[.int .i64 t117, .int .i64 0, .bool false, .bool false, .bool false, .bool false, .slice none 0 0]) ?_ 1 _ rfl; (with_reducible repeat (first | refine blk_drewN ?_ _ | refine blk_drew ?_ | refine blk_alloc ?_ _)); refine blk_put (cs := #[.int .i64 0, .int .i64 0, .bool false, .bool false, .bool false, .bool false, .slice none 0 0]) ?_ 0 _ rfl; (with_reducible repeat (first | refine blk_drewN ?_ _ | refine blk_drew ?_ | refine blk_alloc ?_ _)); exact BK128.out) hb); have n5_ := Aside0.mk (below_step (by repeat (first | (with_reducible first | exact HB.out | apply below_alloc | apply pw_below_drewN | apply below_drew1 | refine below_set ?_ GE101.out | refine below_set ?_ GE128.out) | exact HB.out)) hb); clear HO_7; clear HO_8; clear HO125; clear BK101; clear BK128; clear HB; have HO_7 := n0_; have HO_8 := n1_; have HO125 := n2_; have BK101 := n3_; have BK128 := n4_; have HB := n5_; clear n0_ n1_ n2_ n3_ n4_ n5_; (try clear hb); (try clear hb2); (try clear hk); (try clear hi)) | ((with_reducible refine gate_callee (f := 36) rfl ?_); refine goesL_ (some 112) rfl rfl Try.func36 (by kernel_rfl) rfl #[.agg #[.int .i64 t117, .int .i64 t118, .bool t119, .bool t120, .bool t121, .bool t122, .slice Ao61 t123.length co61], .agg #[.int .i64 0, .int .i64 0, .bool false, .bool false, .bool false, .bool false, .slice none 0 0]] rfl (by (try simp only [List.map_toArray, List.map_cons, List.map_nil]); first | done | rfl | (simp only [List.length_drop, List.length_take]; rfl)) ?_; (refine (psalteryref18_Same.calls t117 t118 t119 t120 t121 t122 _ _ t123 0 0 false false false false _ _ ([] : List (List Int)) true _ ?side1 ?side2 ?side3 ?side4 A52.out).mono ?_); (case side1 => repeat (first | exact (Kd.S_reads' HO125.out).2.2 | (with_reducible refine Kd.C_alloc ?_ _) | (with_reducible refine Kd.C_drewN ?_ _) | (with_reducible refine Kd.C_drew ?_))); (case side2 => exact (Kd.S_reads' HO125.out).2.1); (case side3 => exact Kd.C_nil _ _); (case side4 => exact Nat.le_refl _); rintro e w63 ⟨rfl, hb⟩; refine ⟨_, rfl, ?_⟩; have n0_ := Aside0.mk (Kd.R_below (by (with_reducible repeat (first | apply Kd.R_alloc | apply Kd.R_drewN | apply Kd.R_drew)); exact HO_7.out) hb); have n1_ := Aside0.mk (Kd.R_below (by (with_reducible repeat (first | apply Kd.R_alloc | apply Kd.R_drewN | apply Kd.R_drew)); exact HO_8.out) hb); have n2_ := Aside0.mk (Kd.S_below (by (with_reducible repeat (first | apply Kd.S_alloc | apply Kd.S_drewN | apply Kd.S_drew)); exact HO125.out) hb); have n3_ := Aside0.mk (blk_below (g := gb101) (o := .cells #[.int .i64 a0_0, .int .i64 a0_1, .bool a0_2, .bool a0_3, .bool a0_4, .bool a0_5, .slice A0_6 l0_6.length c0_6] 43 (0, 0)) (by (with_reducible repeat (first | refine blk_drewN ?_ _ | refine blk_drew ?_ | refine blk_alloc ?_ _)); exact BK101.out) hb); have n4_ := Aside0.mk (blk_below (g := gb128) (o := .cells #[.int .i64 t117, .int .i64 t118, .bool t119, .bool t120, .bool t121, .bool t122, .slice Ao61 t123.length co61] 43 (0, 0)) (by (with_reducible repeat (first | refine blk_drewN ?_ _ | refine blk_drew ?_ | refine blk_alloc ?_ _)); exact BK128.out) hb); have n5_ := Aside0.mk (below_step (by repeat (first | (with_reducible first | exact HB.out | apply below_alloc | apply pw_below_drewN | apply below_drew1 | refine below_set ?_ GE101.out | refine below_set ?_ GE128.out) | exact HB.out)) hb); clear HO_7; clear HO_8; clear HO125; clear BK101; clear BK128; clear HB; have HO_7 := n0_; have HO_8 := n1_; have HO125 := n2_; have BK101 := n3_; have BK128 := n4_; have HB := n5_; clear n0_ n1_ n2_ n3_ n4_ n5_; (try clear hb); (try clear hb2); (try clear hk); (try clear hi)) | (go_at_call 33; (with_reducible refine (psalterylaw18_knows.calls  true _ A56.out).mono ?_); rintro e w64 ⟨rfl, hb⟩; have n0_ := Aside0.mk (Kd.R_below (by (with_reducible repeat (first | apply Kd.R_alloc | apply Kd.R_drewN | apply Kd.R_drew)); exact HO_7.out) hb); have n1_ := Aside0.mk (Kd.R_below (by (with_reducible repeat (first | apply Kd.R_alloc | apply Kd.R_drewN | apply Kd.R_drew)); exact HO_8.out) hb); have n2_ := Aside0.mk (Kd.S_below (by (with_reducible repeat (first | apply Kd.S_alloc | apply Kd.S_drewN | apply Kd.S_drew)); exact HO125.out) hb); have n3_ := Aside0.mk (blk_below (g := gb101) (o := .cells #[.int .i64 a0_0, .int .i64 a0_1, .bool a0_2, .bool a0_3, .bool a0_4, .bool a0_5, .slice A0_6 l0_6.length c0_6] 43 (0, 0)) (by (with_reducible repeat (first | refine blk_drewN ?_ _ | refine blk_drew ?_ | refine blk_alloc ?_ _)); exact BK101.out) hb); have n4_ := Aside0.mk (blk_below (g := gb128) (o := .cells #[.int .i64 t117, .int .i64 t118, .bool t119, .bool t120, .bool t121, .bool t122, .slice Ao61 t123.length co61] 43 (0, 0)) (by (with_reducible repeat (first | refine blk_drewN ?_ _ | refine blk_drew ?_ | refine blk_alloc ?_ _)); exact BK128.out) hb); have n5_ := Aside0.mk (below_step (by repeat (first | (with_reducible first | exact HB.out | apply below_alloc | apply pw_below_drewN | apply below_drew1 | refine below_set ?_ GE101.out | refine below_set ?_ GE128.out) | exact HB.out)) hb); clear HO_7; clear HO_8; clear HO125; clear BK101; clear BK128; clear HB; have HO_7 := n0_; have HO_8 := n1_; have HO125 := n2_; have BK101 := n3_; have BK128 := n4_; have HB := n5_; clear n0_ n1_ n2_ n3_ n4_ n5_; (try clear hb); (try clear hb2); (try clear hk); (try clear hi)))
              go_ret
              exact ⟨by first | rfl | (simp [errW_none, errW_some] <;> rfl) | (simp [*, errW_none, errW_some] <;> rfl), by repeat (first | (with_reducible first | exact HB.out | apply below_alloc | apply pw_below_drewN | apply below_drew1 | refine below_set ?_ GE101.out | refine below_set ?_ GE128.out) | exact HB.out)⟩
             ·replace c53 := Bool.eq_false_iff.mpr c53
              subst c53
              have H1 : (some false) = some true := by rw [if_neg (show ¬ (false = true) by decide)] at H; exact H
              exact absurd H1 (by simp)
            ·replace c49 := Bool.eq_false_iff.mpr c49
             subst c49
             have H1 : ((psalterylaw18_knows.f).bind fun t116 => (some t116)) = some true := by rw [if_neg (show ¬ (false = true) by decide)] at H; exact H
             clear H
             have H := H1
             clear H1
             replace H := Option.bind_eq_some_iff.mp H
             obtain ⟨t116, A860, H⟩ := H
             replace H : (some t116) = some true := H
             have A86 := Aside0.mk A860
             clear A860
             obtain rfl := Option.some.inj H
             go_wp2_with (first | ((with_reducible refine gate_callee (f := 33) rfl ?_); refine goesL_ (some 101) rfl rfl Try.func33 (by kernel_rfl) rfl #[] rfl (by (try simp only [List.map_toArray, List.map_cons, List.map_nil]); first | done | rfl | (simp only [List.length_drop, List.length_take]; rfl)) ?_; (with_reducible refine (psalterylaw18_knows.calls  true _ A86.out).mono ?_); rintro e w87 ⟨rfl, hb⟩; refine ⟨_, rfl, ?_⟩; have n0_ := Aside0.mk (Kd.R_below (by (with_reducible repeat (first | apply Kd.R_alloc | apply Kd.R_drewN | apply Kd.R_drew)); exact HO_7.out) hb); have n1_ := Aside0.mk (Kd.R_below (by (with_reducible repeat (first | apply Kd.R_alloc | apply Kd.R_drewN | apply Kd.R_drew)); exact HO_8.out) hb); have n2_ := Aside0.mk (blk_below (g := gb101) (o := .cells #[.int .i64 a0_0, .int .i64 a0_1, .bool a0_2, .bool a0_3, .bool a0_4, .bool a0_5, .slice A0_6 l0_6.length c0_6] 43 (0, 0)) (by (with_reducible repeat (first | refine blk_drewN ?_ _ | refine blk_drew ?_ | refine blk_alloc ?_ _)); exact BK101.out) hb); have n3_ := Aside0.mk (below_step (by repeat (first | (with_reducible first | exact HB.out | apply below_alloc | apply pw_below_drewN | apply below_drew1 | refine below_set ?_ GE101.out) | exact HB.out)) hb); clear HO_7; clear HO_8; clear BK101; clear HB; have HO_7 := n0_; have HO_8 := n1_; have BK101 := n2_; have HB := n3_; clear n0_ n1_ n2_ n3_; (try clear hb); (try clear hb2); (try clear hk); (try clear hi)))
             go_ret
             exact ⟨by first | rfl | (simp [errW_none, errW_some] <;> rfl) | (simp [*, errW_none, errW_some] <;> rfl), by repeat (first | (with_reducible first | exact HB.out | apply below_alloc | apply pw_below_drewN | apply below_drew1 | refine below_set ?_ GE101.out) | exact HB.out)⟩

end Go.Proofs.Yteoclecadpapfaa.G
