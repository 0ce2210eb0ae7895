/- What a call of psaltery/psalterylaw19.GramTurned does, told by a plain Lean function of its arguments. Written by a program for this claim. -/
import Derived.Test.YteoclecadpapfaaG0
import Derived.Test.YteoclecadpapfaaG22
import Derived.Test.YteoclecadpapfaaG39
import Derived.Test.YteoclecadpapfaaG40
import Derived.Test.YteoclecadpapfaaG41
import Derived.Test.YteoclecadpapfaaG44
import Derived.Test.YteoclecadpapfaaG46
import Derived.Test.YteoclecadpapfaaG47
namespace Go.Proofs.Yteoclecadpapfaa.G
open Go.RowKit Go.Proofs.YteoclecadpapfaaW.PrintWords Go.Proofs.YteoclecadpapfaaW.PrintLast Go.Proofs.YteoclecadpapfaaW.PrintMore
attribute [local go_sem] max2_int min2_int max_two min_two max_three min_three max_four min_four
set_option linter.unusedVariables false
set_option linter.unusedSimpArgs false

/-! ### psalterylaw19_GramTurned: function 16 -/
mutual
def psalterylaw19_GramTurned.j0 : Nat → Int → Int → List Int → List Int → Int → Bool → Option (Bool)
  | 0, _, _, _, _, _, _ => none
  | k + 1, x1, x2, x7, x8, x9, x33 => if x33 = true then (if x9 = 0 then (some false) else ((psalterylaw19_knows.f).bind fun t111 => (some t111))) else (if (IntKind.u64.wrap (wrap64 (8 * (wrap64 ((x8.length : Int) - 4))))) = 0 then (none) else (psalterylaw19_GramTurned.l0 k x2 x7 x8 (wrap64 (8 * (wrap64 ((x8.length : Int) - 4)))) (wrap64 (Int.tmod (IntKind.u64.wrap (x1)) (IntKind.u64.wrap (wrap64 (8 * (wrap64 ((x8.length : Int) - 4))))))) false 0))
def psalterylaw19_GramTurned.l0 : Nat → Int → List Int → List Int → Int → Int → Bool → Int → Option (Bool)
  | 0, _, _, _, _, _, _, _ => none
  | k + 1, x2, x7, x8, x10, x11, x12, x13 => if x13 < 32 then (psalterylaw19_GramTurned.j2 k x2 x7 x8 x10 x11 x12 x13 (decide ((wrap64 (x11 + x13)) < x10))) else (psalterylaw19_GramTurned.j2 k x2 x7 x8 x10 x11 x12 x13 false)
def psalterylaw19_GramTurned.j2 : Nat → Int → List Int → List Int → Int → Int → Bool → Int → Bool → Option (Bool)
  | 0, _, _, _, _, _, _, _, _ => none
  | k + 1, x2, x7, x8, x10, x11, x12, x13, x57 => if x57 = true then (if 0 ≤ x13 then (if (Int.tmod (shr .u32 x2 x13) 2) = 1 then (if 0 ≤ (wrap64 (Int.tdiv (wrap64 (x11 + x13)) 8)) then (if (wrap64 (Int.tdiv (wrap64 (x11 + x13)) 8)) < (x8.length : Int) then (if 0 ≤ (Int.tmod (wrap64 (x11 + x13)) 8) then (psalterylaw19_GramTurned.l0 k x2 x7 (x8.set ((wrap64 (Int.tdiv (wrap64 (x11 + x13)) 8)) : Int).toNat (Go.bits .xor .u8 (rd x8 (wrap64 (Int.tdiv (wrap64 (x11 + x13)) 8))) (shl .u8 1 (Int.tmod (wrap64 (x11 + x13)) 8)))) x10 x11 true (wrap64 (x13 + 1))) else (none)) else (none)) else (none)) else (psalterylaw19_GramTurned.l0 k x2 x7 x8 x10 x11 x12 (wrap64 (x13 + 1)))) else (none)) else (if x12 = true then ((dgram_Read.f x7 x8).bind fun bt115 => ((psalterylaw19_As.f bt115.1 bt115.2.1 bt115.2.2.1 bt115.2.2.2.1).bind fun _ => ((psalteryref19_Same.f bt115.1 bt115.2.1 bt115.2.2.1 bt115.2.2.2.1 0 0 false ([] : List Int)).bind fun t123 => (if t123 = true then (if bt115.2.2.2.2 = 6 then ((psalterylaw19_knows.f).bind fun t124 => (some t124)) else (some false)) else (some false))))) else ((psalterylaw19_knows.f).bind fun t114 => (some t114)))
end
def psalterylaw19_GramTurned.f (k : Nat) (a0_0 : Int) (a0_1 : Int) (a0_2 : Bool) (l0_3 : List Int) (a1 : Int) (a2 : Int) : Option (Bool) := (psalterylaw19_great.f l0_3).bind fun t102 => (if t102 = true then ((psalterylaw19_knows.f).bind fun t103 => (some t103)) else ((sums_Table.f).bind fun t104 => ((dgram_Write.f t104 a0_0 a0_1 a0_2 l0_3).bind fun bt107 => (if bt107.2 = 0 then (psalterylaw19_GramTurned.j0 k a1 a2 t104 bt107.1 bt107.2 (decide ((bt107.1.length : Int) < 11))) else (psalterylaw19_GramTurned.j0 k a1 a2 t104 bt107.1 bt107.2 true)))))
theorem psalterylaw19_GramTurned.mono_l : ∀ k, (∀ y0 y1 y2 y3 y4 y5, LeO (psalterylaw19_GramTurned.j0 k y0 y1 y2 y3 y4 y5) (psalterylaw19_GramTurned.j0 (k + 1) y0 y1 y2 y3 y4 y5)) ∧ (∀ y0 y1 y2 y3 y4 y5 y6, LeO (psalterylaw19_GramTurned.l0 k y0 y1 y2 y3 y4 y5 y6) (psalterylaw19_GramTurned.l0 (k + 1) y0 y1 y2 y3 y4 y5 y6)) ∧ (∀ y0 y1 y2 y3 y4 y5 y6 y7, LeO (psalterylaw19_GramTurned.j2 k y0 y1 y2 y3 y4 y5 y6 y7) (psalterylaw19_GramTurned.j2 (k + 1) y0 y1 y2 y3 y4 y5 y6 y7))
  | 0 => ⟨fun _ _ _ _ _ _ r h => by simp [psalterylaw19_GramTurned.j0] at h, fun _ _ _ _ _ _ _ r h => by simp [psalterylaw19_GramTurned.l0] at h, fun _ _ _ _ _ _ _ _ r h => by simp [psalterylaw19_GramTurned.j2] at h⟩
  | k + 1 => by
    obtain ⟨ih0, ih1, ih2⟩ := psalterylaw19_GramTurned.mono_l k
    refine ⟨?_, ?_, ?_⟩
    · intro y0 y1 y2 y3 y4 y5
      unfold psalterylaw19_GramTurned.j0
      repeat' first
      | (with_reducible exact ih0 _ _ _ _ _ _)
      | (with_reducible exact ih1 _ _ _ _ _ _ _)
      | (with_reducible exact ih2 _ _ _ _ _ _ _ _)
      | (with_reducible exact LeO.refl _)
      | (with_reducible exact LeO.none _)
      | (with_reducible refine LeO.ite ?_ ?_)
      | (with_reducible refine LeO.bind ?_ (fun _ => ?_))
      | exact ih0 _ _ _ _ _ _
      | exact ih1 _ _ _ _ _ _ _
      | exact ih2 _ _ _ _ _ _ _ _
      | exact LeO.none _
      | refine LeO.ite ?_ ?_
      | refine LeO.bind ?_ (fun _ => ?_)
    · intro y0 y1 y2 y3 y4 y5 y6
      unfold psalterylaw19_GramTurned.l0
      repeat' first
      | (with_reducible exact ih0 _ _ _ _ _ _)
      | (with_reducible exact ih1 _ _ _ _ _ _ _)
      | (with_reducible exact ih2 _ _ _ _ _ _ _ _)
      | (with_reducible exact LeO.refl _)
      | (with_reducible exact LeO.none _)
      | (with_reducible refine LeO.ite ?_ ?_)
      | (with_reducible refine LeO.bind ?_ (fun _ => ?_))
      | exact ih0 _ _ _ _ _ _
      | exact ih1 _ _ _ _ _ _ _
      | exact ih2 _ _ _ _ _ _ _ _
      | exact LeO.none _
      | refine LeO.ite ?_ ?_
      | refine LeO.bind ?_ (fun _ => ?_)
    · intro y0 y1 y2 y3 y4 y5 y6 y7
      unfold psalterylaw19_GramTurned.j2
      repeat' first
      | (with_reducible exact ih0 _ _ _ _ _ _)
      | (with_reducible exact ih1 _ _ _ _ _ _ _)
      | (with_reducible exact ih2 _ _ _ _ _ _ _ _)
      | (with_reducible exact LeO.refl _)
      | (with_reducible exact LeO.none _)
      | (with_reducible refine LeO.ite ?_ ?_)
      | (with_reducible refine LeO.bind ?_ (fun _ => ?_))
      | exact ih0 _ _ _ _ _ _
      | exact ih1 _ _ _ _ _ _ _
      | exact ih2 _ _ _ _ _ _ _ _
      | exact LeO.none _
      | refine LeO.ite ?_ ?_
      | refine LeO.bind ?_ (fun _ => ?_)
theorem psalterylaw19_GramTurned.mono : ∀ a0 a1 a2 a3 a4 a5 k, LeO (psalterylaw19_GramTurned.f k a0 a1 a2 a3 a4 a5) (psalterylaw19_GramTurned.f (k + 1) a0 a1 a2 a3 a4 a5) := by
  intro a0 a1 a2 a3 a4 a5 k
  obtain ⟨ih0, ih1, ih2⟩ := psalterylaw19_GramTurned.mono_l k
  unfold psalterylaw19_GramTurned.f
  repeat' first
      | (with_reducible exact ih0 _ _ _ _ _ _)
      | (with_reducible exact ih1 _ _ _ _ _ _ _)
      | (with_reducible exact ih2 _ _ _ _ _ _ _ _)
      | (with_reducible exact LeO.refl _)
      | (with_reducible exact LeO.none _)
      | (with_reducible refine LeO.ite ?_ ?_)
      | (with_reducible refine LeO.bind ?_ (fun _ => ?_))
      | exact ih0 _ _ _ _ _ _
      | exact ih1 _ _ _ _ _ _ _
      | exact ih2 _ _ _ _ _ _ _ _
      | exact LeO.none _
      | refine LeO.ite ?_ ?_
      | refine LeO.bind ?_ (fun _ => ?_)
def psalterylaw19_GramTurned.T14 : Bool × List (List Nat × List Nat) := (true, [([], []), ([], []), ([], []), ([1, 2], [1, 2]), ([3], [3]), ([], []), ([], []), ([], []), ([6, 7], [6, 7]), ([8], [8]), ([5, 9], [5, 9]), ([10], [10]), ([], []), ([], []), ([12, 13], [12, 13]), ([14], [14]), ([15], [15]), ([11, 16], [11, 16]), ([0, 4, 0, 1, 2, 3, 4, 5, 6, 7, 8, 9, 10, 11, 12, 13, 14, 15, 16, 17], [0, 4]), ([18, 17, 0, 1, 2, 3, 4, 5, 6, 7, 8, 9, 10, 11, 12, 13, 14, 15, 16, 17], [17, 18])])
def psalterylaw19_GramTurned.B14 : List Nat := [0, 0, 0, 6, 14, 0, 0, 0, 192, 448, 992, 2016, 0, 0, 12288, 28672, 61440, 131040, 262143, 524287]
theorem psalterylaw19_GramTurned.tab14 : rtab .any (opsOf Try.f16 14) = psalterylaw19_GramTurned.T14 := by kernel_rfl
theorem psalterylaw19_GramTurned.bits14 : waitsOk psalterylaw19_GramTurned.T14.2 psalterylaw19_GramTurned.B14 = true := by kernel_rfl
set_option maxHeartbeats 8000000 in
set_option maxRecDepth 100000 in
theorem psalterylaw19_GramTurned.calls (k : Nat) (a0_0 : Int) (a0_1 : Int) (a0_2 : Bool) (A0_3 : Option Addr) (c0_3 : Nat) (l0_3 : List Int) (a1 : Int) (a2 : Int) (r : Bool) (w : World) (hr0_3 : Kd.C (Kd.int .u8) w A0_3 l0_3.length l0_3) (hc0_3 : l0_3.length ≤ c0_3) (h : psalterylaw19_GramTurned.f k a0_0 a0_1 a0_2 l0_3 a1 a2 = some r) :
    Calls Try.prog 16 #[.agg #[.int .i64 a0_0, .int .i64 a0_1, .bool a0_2, .slice A0_3 l0_3.length c0_3], .int .i64 a1, .int .u32 a2] w fun e w' => e = .returned (.bool r) ∧ Below w.heap.size w w' := by
  have hu59 := Try.underlying59
  have hu63 := Try.underlying63
  have HR0_3 := Aside0.mk hr0_3
  have HC0_3 := Aside0.mk hc0_3
  clear hr0_3 hc0_3
  have HB := Aside0.mk (Below.refl w.heap.size w)
  have H : ((psalterylaw19_great.f l0_3).bind fun t102 => (if t102 = true then ((psalterylaw19_knows.f).bind fun t103 => (some t103)) else ((sums_Table.f).bind fun t104 => ((dgram_Write.f t104 a0_0 a0_1 a0_2 l0_3).bind fun bt107 => (if bt107.2 = 0 then (psalterylaw19_GramTurned.j0 k a1 a2 t104 bt107.1 bt107.2 (decide ((bt107.1.length : Int) < 11))) else (psalterylaw19_GramTurned.j0 k a1 a2 t104 bt107.1 bt107.2 true)))))) = some r := h
  clear h
  replace H := Option.bind_eq_some_iff.mp H
  obtain ⟨t102, A40, H⟩ := H
  replace H : (if t102 = true then ((psalterylaw19_knows.f).bind fun t103 => (some t103)) else ((sums_Table.f).bind fun t104 => ((dgram_Write.f t104 a0_0 a0_1 a0_2 l0_3).bind fun bt107 => (if bt107.2 = 0 then (psalterylaw19_GramTurned.j0 k a1 a2 t104 bt107.1 bt107.2 (decide ((bt107.1.length : Int) < 11))) else (psalterylaw19_GramTurned.j0 k a1 a2 t104 bt107.1 bt107.2 true))))) = some r := H
  have A4 := Aside0.mk A40
  clear A40
  by_cases c5 : t102 = true
  · subst c5
    have H1 : ((psalterylaw19_knows.f).bind fun t103 => (some t103)) = some r := by rw [if_pos rfl] at H; exact H
    clear H
    have H := H1
    clear H1
    replace H := Option.bind_eq_some_iff.mp H
    obtain ⟨t103, A60, H⟩ := H
    replace H : (some t103) = some r := H
    have A6 := Aside0.mk A60
    clear A60
    obtain rfl := Option.some.inj H
    go_enter Try.func16, Try.ntmps16
    go_wp2_with (first | ((with_reducible refine gate_dst (N := 3) rfl ?_); (try (refine gate_guard (by rfl) ?_; dsimp only)); refine box_event ?hg (N := 3) ?hd (cs := #[.int .i64 a0_0, .int .i64 a0_1, .bool a0_2, .slice A0_3 l0_3.length c0_3]) (t := 59) ?hr ?_; (case hd => rfl); (case hg => rfl); (case hr => first | (go_simp; done) | (go_simp; rfl)); intro gb101 hg w7 hbox hb; have n0_ := Aside0.mk (below_step (by repeat (first | (with_reducible first | exact HB.out | apply below_alloc | apply pw_below_drewN | apply below_drew1) | exact HB.out)) hb); have n1_ := Aside0.mk (hbox); have n2_ := Aside0.mk ((by rw [hg]; exact (below_size (by repeat (first | (with_reducible first | exact HB.out | apply below_alloc | apply pw_below_drewN | apply below_drew1) | exact HB.out))) : w.heap.size ≤ gb101)); have n3_ := Aside0.mk ((by rw [hg]; exact (below_size (by repeat (first | (with_reducible first | exact HB.out | apply below_alloc | apply pw_below_drewN | apply below_drew1) | exact HB.out))) : w.heap.size ≤ gb101)); clear HB; have HB := n0_; have BK101 := n1_; have GW101 := n2_; have GE101 := n3_; clear n0_ n1_ n2_ n3_; clear hb hbox hg; have hcz8_0 : w7.cell? ⟨gb101, 0, none⟩ = some (.int .i64 a0_0) := (blk_cell BK101.out 0).trans rfl; have hcz8_1 : w7.cell? ⟨gb101, 1, none⟩ = some (.int .i64 a0_1) := (blk_cell BK101.out 1).trans rfl; have hcz8_2 : w7.cell? ⟨gb101, 2, none⟩ = some (.bool a0_2) := (blk_cell BK101.out 2).trans rfl; have hcz8_3 : w7.cell? ⟨gb101, 3, none⟩ = some (.slice A0_3 l0_3.length c0_3) := (blk_cell BK101.out 3).trans rfl; have hfz8_0 := blk_frozen BK101.out 0; have hfz8_1 := blk_frozen BK101.out 1; have hfz8_2 := blk_frozen BK101.out 2; have hfz8_3 := blk_frozen BK101.out 3) | ((with_reducible refine gate_callee (f := 39) rfl ?_); refine goesL_ (some 18) rfl rfl Try.func39 (by kernel_rfl) rfl #[.slice A0_3 l0_3.length c0_3] rfl (by (try simp only [List.map_toArray, List.map_cons, List.map_nil]); first | done | rfl | (simp only [List.length_drop, List.length_take]; rfl)) ?_; (with_reducible refine (psalterylaw19_great.calls _ _ l0_3 true _ ?side1 ?side2 A4.out).mono ?_); (case side1 => repeat (first | exact (Kd.C_below HR0_3.out HB.out) | (with_reducible refine Kd.C_alloc ?_ _) | (with_reducible refine Kd.C_drewN ?_ _) | (with_reducible refine Kd.C_drew ?_))); (case side2 => exact HC0_3.out); rintro e w' ⟨rfl, ⟨nd, rfl⟩⟩; refine ⟨_, rfl, ?_⟩) | ((with_reducible refine gate_callee (f := 40) rfl ?_); refine goesL_ (some 19) rfl rfl Try.func40 (by kernel_rfl) rfl #[] rfl (by (try simp only [List.map_toArray, List.map_cons, List.map_nil]); first | done | rfl | (simp only [List.length_drop, List.length_take]; rfl)) ?_; (with_reducible refine (psalterylaw19_knows.calls  t103 _ A6.out).mono ?_); rintro e w9 ⟨rfl, hb⟩; refine ⟨_, rfl, ?_⟩; have n0_ := Aside0.mk (blk_below (g := gb101) (o := .cells #[.int .i64 a0_0, .int .i64 a0_1, .bool a0_2, .slice A0_3 l0_3.length c0_3] 59 (0, 0)) (by (with_reducible repeat (first | refine blk_drewN ?_ _ | refine blk_drew ?_ | refine blk_alloc ?_ _)); exact BK101.out) hb); have n1_ := Aside0.mk (below_step (by repeat (first | (with_reducible first | exact HB.out | apply below_alloc | apply pw_below_drewN | apply below_drew1 | refine below_set ?_ GE101.out) | exact HB.out)) hb); clear BK101; clear HB; have BK101 := n0_; have HB := n1_; clear n0_ n1_; (try clear hb); (try clear hb2); (try clear hk); (try clear hi)))
    go_ret
    exact ⟨by first | rfl | (simp [errW_none, errW_some] <;> rfl) | (simp [*, errW_none, errW_some] <;> rfl), by repeat (first | (with_reducible first | exact HB.out | apply below_alloc | apply pw_below_drewN | apply below_drew1 | refine below_set ?_ GE101.out) | exact HB.out)⟩
  · replace c5 := Bool.eq_false_iff.mpr c5
    subst c5
    have H1 : ((sums_Table.f).bind fun t104 => ((dgram_Write.f t104 a0_0 a0_1 a0_2 l0_3).bind fun bt107 => (if bt107.2 = 0 then (psalterylaw19_GramTurned.j0 k a1 a2 t104 bt107.1 bt107.2 (decide ((bt107.1.length : Int) < 11))) else (psalterylaw19_GramTurned.j0 k a1 a2 t104 bt107.1 bt107.2 true)))) = some r := by rw [if_neg (show ¬ (false = true) by decide)] at H; exact H
    clear H
    have H := H1
    clear H1
    replace H := Option.bind_eq_some_iff.mp H
    obtain ⟨t104, A100, H⟩ := H
    replace H : ((dgram_Write.f t104 a0_0 a0_1 a0_2 l0_3).bind fun bt107 => (if bt107.2 = 0 then (psalterylaw19_GramTurned.j0 k a1 a2 t104 bt107.1 bt107.2 (decide ((bt107.1.length : Int) < 11))) else (psalterylaw19_GramTurned.j0 k a1 a2 t104 bt107.1 bt107.2 true))) = some r := H
    have A10 := Aside0.mk A100
    clear A100
    replace H := Option.bind_eq_some_iff.mp H
    obtain ⟨⟨t107, t110⟩, A110, H⟩ := H
    replace H : (if t110 = 0 then (psalterylaw19_GramTurned.j0 k a1 a2 t104 t107 t110 (decide ((t107.length : Int) < 11))) else (psalterylaw19_GramTurned.j0 k a1 a2 t104 t107 t110 true)) = some r := H
    have A11 := Aside0.mk A110
    clear A110
    have HC12 := Aside0.mk H
    clear H
    go_enter Try.func16, Try.ntmps16
    go_upto_region 5 with (first | ((with_reducible refine gate_dst (N := 3) rfl ?_); (try (refine gate_guard (by rfl) ?_; dsimp only)); refine box_event ?hg (N := 3) ?hd (cs := #[.int .i64 a0_0, .int .i64 a0_1, .bool a0_2, .slice A0_3 l0_3.length c0_3]) (t := 59) ?hr ?_; (case hd => rfl); (case hg => rfl); (case hr => first | (go_simp; done) | (go_simp; rfl)); intro gb101 hg w13 hbox hb; have n0_ := Aside0.mk (below_step (by repeat (first | (with_reducible first | exact HB.out | apply below_alloc | apply pw_below_drewN | apply below_drew1) | exact HB.out)) hb); have n1_ := Aside0.mk (hbox); have n2_ := Aside0.mk ((by rw [hg]; exact (below_size (by repeat (first | (with_reducible first | exact HB.out | apply below_alloc | apply pw_below_drewN | apply below_drew1) | exact HB.out))) : w.heap.size ≤ gb101)); have n3_ := Aside0.mk ((by rw [hg]; exact (below_size (by repeat (first | (with_reducible first | exact HB.out | apply below_alloc | apply pw_below_drewN | apply below_drew1) | exact HB.out))) : w.heap.size ≤ gb101)); clear HB; have HB := n0_; have BK101 := n1_; have GW101 := n2_; have GE101 := n3_; clear n0_ n1_ n2_ n3_; clear hb hbox hg; have hcz14_0 : w13.cell? ⟨gb101, 0, none⟩ = some (.int .i64 a0_0) := (blk_cell BK101.out 0).trans rfl; have hcz14_1 : w13.cell? ⟨gb101, 1, none⟩ = some (.int .i64 a0_1) := (blk_cell BK101.out 1).trans rfl; have hcz14_2 : w13.cell? ⟨gb101, 2, none⟩ = some (.bool a0_2) := (blk_cell BK101.out 2).trans rfl; have hcz14_3 : w13.cell? ⟨gb101, 3, none⟩ = some (.slice A0_3 l0_3.length c0_3) := (blk_cell BK101.out 3).trans rfl; have hfz14_0 := blk_frozen BK101.out 0; have hfz14_1 := blk_frozen BK101.out 1; have hfz14_2 := blk_frozen BK101.out 2; have hfz14_3 := blk_frozen BK101.out 3) | ((with_reducible refine gate_callee (f := 39) rfl ?_); refine goesL_ (some 18) rfl rfl Try.func39 (by kernel_rfl) rfl #[.slice A0_3 l0_3.length c0_3] rfl (by (try simp only [List.map_toArray, List.map_cons, List.map_nil]); first | done | rfl | (simp only [List.length_drop, List.length_take]; rfl)) ?_; (with_reducible refine (psalterylaw19_great.calls _ _ l0_3 false _ ?side1 ?side2 A4.out).mono ?_); (case side1 => repeat (first | exact (Kd.C_below HR0_3.out HB.out) | (with_reducible refine Kd.C_alloc ?_ _) | (with_reducible refine Kd.C_drewN ?_ _) | (with_reducible refine Kd.C_drew ?_))); (case side2 => exact HC0_3.out); rintro e w' ⟨rfl, ⟨nd, rfl⟩⟩; refine ⟨_, rfl, ?_⟩) | ((with_reducible refine gate_callee (f := 22) rfl ?_); refine goesL_ (some 20) rfl rfl Try.func22 (by kernel_rfl) rfl #[] rfl (by (try simp only [List.map_toArray, List.map_cons, List.map_nil]); first | done | rfl | (simp only [List.length_drop, List.length_take]; rfl)) ?_; (with_reducible refine (sums_Table.calls  t104 _ A10.out).mono ?_); rintro e w15 ⟨v105, rfl, ho0, hb⟩; refine ⟨_, rfl, ?_⟩; have n0_ := Aside0.mk (Kd.R_lower ho0 (below_size (by repeat (first | (with_reducible first | exact HB.out | apply below_alloc | apply pw_below_drewN | apply below_drew1 | refine below_set ?_ GE101.out) | exact HB.out)))); have n1_ := Aside0.mk (blk_below (g := gb101) (o := .cells #[.int .i64 a0_0, .int .i64 a0_1, .bool a0_2, .slice A0_3 l0_3.length c0_3] 59 (0, 0)) (by (with_reducible repeat (first | refine blk_drewN ?_ _ | refine blk_drew ?_ | refine blk_alloc ?_ _)); exact BK101.out) hb); have n2_ := Aside0.mk (below_step (by repeat (first | (with_reducible first | exact HB.out | apply below_alloc | apply pw_below_drewN | apply below_drew1 | refine below_set ?_ GE101.out) | exact HB.out)) hb); clear BK101; clear HB; have HO106 := n0_; have BK101 := n1_; have HB := n2_; clear n0_ n1_ n2_; (try clear hb); (try clear hb2); (try clear hk); (try clear hi); (try clear ho0); have hcz16_0 : w15.cell? ⟨gb101, 0, none⟩ = some (.int .i64 a0_0) := (blk_cell BK101.out 0).trans rfl; have hcz16_1 : w15.cell? ⟨gb101, 1, none⟩ = some (.int .i64 a0_1) := (blk_cell BK101.out 1).trans rfl; have hcz16_2 : w15.cell? ⟨gb101, 2, none⟩ = some (.bool a0_2) := (blk_cell BK101.out 2).trans rfl; have hcz16_3 : w15.cell? ⟨gb101, 3, none⟩ = some (.slice A0_3 l0_3.length c0_3) := (blk_cell BK101.out 3).trans rfl; have hfz16_0 := blk_frozen BK101.out 0; have hfz16_1 := blk_frozen BK101.out 1; have hfz16_2 := blk_frozen BK101.out 2; have hfz16_3 := blk_frozen BK101.out 3; obtain ⟨Ao17, co17, eo17⟩ := Kd.R_slice HO106.out; subst eo17) | ((with_reducible refine gate_callee (f := 41) rfl ?_); refine goesL_ (some 24) rfl rfl Try.func41 (by kernel_rfl) rfl #[.slice Ao17 t104.length co17, .agg #[.int .i64 a0_0, .int .i64 a0_1, .bool a0_2, .slice A0_3 l0_3.length c0_3]] rfl (by (try simp only [List.map_toArray, List.map_cons, List.map_nil]); first | done | rfl | (simp only [List.length_drop, List.length_take]; rfl)) ?_; (with_reducible refine (dgram_Write.calls _ _ t104 a0_0 a0_1 a0_2 _ _ l0_3 t107 t110 _ ?side1 ?side2 ?side3 ?side4 A11.out).mono ?_); (case side1 => repeat (first | exact (Kd.R_reads' HO106.out).2.2 | (with_reducible refine Kd.C_alloc ?_ _) | (with_reducible refine Kd.C_drewN ?_ _) | (with_reducible refine Kd.C_drew ?_))); (case side2 => exact (Kd.R_reads' HO106.out).2.1); (case side3 => repeat (first | exact (Kd.C_below HR0_3.out HB.out) | (with_reducible refine Kd.C_alloc ?_ _) | (with_reducible refine Kd.C_drewN ?_ _) | (with_reducible refine Kd.C_drew ?_))); (case side4 => exact HC0_3.out); rintro e w18 ⟨v108, rfl, ho0, hb⟩; refine ⟨_, rfl, ?_⟩; have n0_ := Aside0.mk (Kd.R_below (by (with_reducible repeat (first | apply Kd.R_alloc | apply Kd.R_drewN | apply Kd.R_drew)); exact HO106.out) hb); have n1_ := Aside0.mk (Kd.R_lower ho0 (below_size (by repeat (first | (with_reducible first | exact HB.out | apply below_alloc | apply pw_below_drewN | apply below_drew1 | refine below_set ?_ GE101.out) | exact HB.out)))); have n2_ := Aside0.mk (blk_below (g := gb101) (o := .cells #[.int .i64 a0_0, .int .i64 a0_1, .bool a0_2, .slice A0_3 l0_3.length c0_3] 59 (0, 0)) (by (with_reducible repeat (first | refine blk_drewN ?_ _ | refine blk_drew ?_ | refine blk_alloc ?_ _)); exact BK101.out) hb); have n3_ := Aside0.mk (below_step (by repeat (first | (with_reducible first | exact HB.out | apply below_alloc | apply pw_below_drewN | apply below_drew1 | refine below_set ?_ GE101.out) | exact HB.out)) hb); clear HO106; clear BK101; clear HB; have HO106 := n0_; have HO109 := n1_; have BK101 := n2_; have HB := n3_; clear n0_ n1_ n2_ n3_; (try clear hb); (try clear hb2); (try clear hk); (try clear hi); (try clear ho0)))
    (try simp only [Act.put, List.setIfInBounds_toArray, List.set_cons_zero, List.set_cons_succ])
    go_cut [33] (fun v33 wc => ∃ (kq : Nat) (x33_11 : Bool), v33 = .bool x33_11 ∧ Aside0 (psalterylaw19_GramTurned.j0 kq a1 a2 t104 t107 t110 x33_11 = some r) ∧ Aside0 (kq ≤ k) ∧ Aside0 (Kd.R (Kd.int .u32) 24 wc w.heap.size (fun _ => True) (.slice Ao17 t104.length co17) t104) ∧ Aside0 (Kd.R (Kd.int .u8) 5 wc w.heap.size (fun _ => True) v108 t107) ∧ Aside0 (wc.heap[gb101]? = some (.cells #[.int .i64 a0_0, .int .i64 a0_1, .bool a0_2, (.slice A0_3 l0_3.length c0_3)] 59 (0, 0))) ∧ Aside0 (Below w.heap.size w wc))
    case first =>
      have H := HC12.out
      clear HC12
      by_cases c19 : t110 = 0
      · rw [if_pos c19] at H
        have c19b0 : (t110 == 0) = true := beq_iff_eq.mpr c19
        have c19b1 : (t110 != 0) = false := bne_eq_false_iff_eq.mpr c19
        clear c19
        (first | rw [c19b0] | (simp only [i64_w, i32_w]; rw [c19b0]) | skip)
        have H' := Aside0.mk H
        clear H
        obtain ⟨Ao20, co20, eo20⟩ := Kd.R_slice HO109.out
        subst eo20
        go_wp2
        go_meet
        case rel => exact ⟨_, (decide ((t107.length : Int) < 11)), (by first | rfl | (simp; done) | (simp [*]; done)), H', ⟨by first | omega | exact Nat.le_refl _⟩, ⟨by (with_reducible repeat (first | apply Kd.R_alloc | apply Kd.R_drewN | apply Kd.R_drew)); exact HO106.out⟩, ⟨by (with_reducible repeat (first | apply Kd.R_alloc | apply Kd.R_drewN | apply Kd.R_drew)); exact HO109.out⟩, ⟨by (with_reducible repeat (first | refine blk_drewN ?_ _ | refine blk_drew ?_ | refine blk_alloc ?_ _)); exact BK101.out⟩, ⟨by repeat (first | (with_reducible first | exact HB.out | apply below_alloc | apply pw_below_drewN | apply below_drew1 | refine below_set ?_ GE101.out) | exact HB.out)⟩⟩
      · rw [if_neg c19] at H
        have c19b0 : (t110 == 0) = false := beq_eq_false_iff_ne.mpr c19
        have c19b1 : (t110 != 0) = true := bne_iff_ne.mpr c19
        (first | rw [c19b0] | (simp only [i64_w, i32_w]; rw [c19b0]) | skip)
        have H' := Aside0.mk H
        clear H
        go_wp2
        go_meet
        case rel => exact ⟨_, (true), (by first | rfl | (simp; done) | (simp [*]; done)), H', ⟨by first | omega | exact Nat.le_refl _⟩, ⟨by (with_reducible repeat (first | apply Kd.R_alloc | apply Kd.R_drewN | apply Kd.R_drew)); exact HO106.out⟩, ⟨by (with_reducible repeat (first | apply Kd.R_alloc | apply Kd.R_drewN | apply Kd.R_drew)); exact HO109.out⟩, ⟨by (with_reducible repeat (first | refine blk_drewN ?_ _ | refine blk_drew ?_ | refine blk_alloc ?_ _)); exact BK101.out⟩, ⟨by repeat (first | (with_reducible first | exact HB.out | apply below_alloc | apply pw_below_drewN | apply below_drew1 | refine below_set ?_ GE101.out) | exact HB.out)⟩⟩
    case rest =>
      clear HC12
      try clear c1
      try clear c2
      try clear p2
      try clear c3
      try clear c4
      try clear c5
      try clear c16
      try clear c19
      try clear c19b0
      try clear c19b1
      try clear hcz14_0
      try clear hcz14_1
      try clear hcz14_2
      try clear hcz14_3
      try clear hcz16_0
      try clear hcz16_1
      try clear hcz16_2
      try clear hcz16_3
      try clear hcz8_0
      try clear hcz8_1
      try clear hcz8_2
      try clear hcz8_3
      try clear hfz14_0
      try clear hfz14_1
      try clear hfz14_2
      try clear hfz14_3
      try clear hfz16_0
      try clear hfz16_1
      try clear hfz16_2
      try clear hfz16_3
      try clear hfz8_0
      try clear hfz8_1
      try clear hfz8_2
      try clear hfz8_3
      obtain ⟨kq, x33_11, rfl, HA, HJ11, HO_7, HO_8, BK101, HB⟩ := hcut
      cases kq with
      | zero => exact absurd HA.out (by simp [psalterylaw19_GramTurned.j0])
      | succ kj11 =>
        have H := HA.out
        clear HA
        simp only [psalterylaw19_GramTurned.j0] at H
        by_cases c21 : x33_11 = true
        · subst c21
          have H1 : (if t110 = 0 then (some false) else ((psalterylaw19_knows.f).bind fun t111 => (some t111))) = some r := by rw [if_pos rfl] at H; exact H
          clear H
          have H := H1
          clear H1
          by_cases c22 : t110 = 0
          · rw [if_pos c22] at H
            have c22b0 : (t110 == 0) = true := beq_iff_eq.mpr c22
            have c22b1 : (t110 != 0) = false := bne_eq_false_iff_eq.mpr c22
            clear c22
            obtain rfl := Option.some.inj H
            go_wp2
            go_ret
            exact ⟨by first | rfl | (simp [errW_none, errW_some] <;> rfl) | (simp [*, errW_none, errW_some] <;> rfl), by repeat (first | (with_reducible first | exact HB.out | apply below_alloc | apply pw_below_drewN | apply below_drew1 | refine below_set ?_ GE101.out) | exact HB.out)⟩
          · rw [if_neg c22] at H
            have c22b0 : (t110 == 0) = false := beq_eq_false_iff_ne.mpr c22
            have c22b1 : (t110 != 0) = true := bne_iff_ne.mpr c22
            replace H := Option.bind_eq_some_iff.mp H
            obtain ⟨t111, A230, H⟩ := H
            replace H : (some t111) = some r := H
            have A23 := Aside0.mk A230
            clear A230
            obtain rfl := Option.some.inj H
            go_wp2_with (first | (go_at_call 40; (with_reducible refine (psalterylaw19_knows.calls  t111 _ A23.out).mono ?_); rintro e w24 ⟨rfl, hb⟩; have n0_ := Aside0.mk (Kd.R_below (by (with_reducible repeat (first | apply Kd.R_alloc | apply Kd.R_drewN | apply Kd.R_drew)); exact HO_7.out) hb); have n1_ := Aside0.mk (Kd.R_below (by (with_reducible repeat (first | apply Kd.R_alloc | apply Kd.R_drewN | apply Kd.R_drew)); exact HO_8.out) hb); have n2_ := Aside0.mk (blk_below (g := gb101) (o := .cells #[.int .i64 a0_0, .int .i64 a0_1, .bool a0_2, .slice A0_3 l0_3.length c0_3] 59 (0, 0)) (by (with_reducible repeat (first | refine blk_drewN ?_ _ | refine blk_drew ?_ | refine blk_alloc ?_ _)); exact BK101.out) hb); have n3_ := Aside0.mk (below_step (by repeat (first | (with_reducible first | exact HB.out | apply below_alloc | apply pw_below_drewN | apply below_drew1 | refine below_set ?_ GE101.out) | exact HB.out)) hb); clear HO_7; clear HO_8; clear BK101; clear HB; have HO_7 := n0_; have HO_8 := n1_; have BK101 := n2_; have HB := n3_; clear n0_ n1_ n2_ n3_; (try clear hb); (try clear hb2); (try clear hk); (try clear hi)))
            go_ret
            exact ⟨by first | rfl | (simp [errW_none, errW_some] <;> rfl) | (simp [*, errW_none, errW_some] <;> rfl), by repeat (first | (with_reducible first | exact HB.out | apply below_alloc | apply pw_below_drewN | apply below_drew1 | refine below_set ?_ GE101.out) | exact HB.out)⟩
        · replace c21 := Bool.eq_false_iff.mpr c21
          subst c21
          have H1 : (if (IntKind.u64.wrap (wrap64 (8 * (wrap64 ((t107.length : Int) - 4))))) = 0 then (none) else (psalterylaw19_GramTurned.l0 kj11 a2 t104 t107 (wrap64 (8 * (wrap64 ((t107.length : Int) - 4)))) (wrap64 (Int.tmod (IntKind.u64.wrap (a1)) (IntKind.u64.wrap (wrap64 (8 * (wrap64 ((t107.length : Int) - 4))))))) false 0)) = some r := by rw [if_neg (show ¬ (false = true) by decide)] at H; exact H
          clear H
          have H := H1
          clear H1
          by_cases c25 : (IntKind.u64.wrap (wrap64 (8 * (wrap64 ((t107.length : Int) - 4))))) = 0
          · rw [if_pos c25] at H
            exact absurd H (by simp)
          · rw [if_neg c25] at H
            have c25b0 : ((IntKind.u64.wrap (wrap64 (8 * (wrap64 ((t107.length : Int) - 4))))) == 0) = false := beq_eq_false_iff_ne.mpr c25
            have c25b1 : ((IntKind.u64.wrap (wrap64 (8 * (wrap64 ((t107.length : Int) - 4))))) != 0) = true := bne_iff_ne.mpr c25
            have H' := Aside0.mk H
            clear H
            obtain ⟨Ao26, co26, eo26⟩ := Kd.R_slice HO_8.out
            subst eo26
            go_wp2
            go_loopg [12, 13] kj11 (fun kq v12 v13 w' => ∃ (x8_2 : List Int) (x12_2 : Bool) (x13_2 : Int), v12 = .bool x12_2 ∧ v13 = .int .i64 x13_2 ∧ Aside0 (psalterylaw19_GramTurned.l0 kq a2 t104 x8_2 (wrap64 (8 * (wrap64 ((t107.length : Int) - 4)))) (wrap64 (Int.tmod (IntKind.u64.wrap (a1)) (IntKind.u64.wrap (wrap64 (8 * (wrap64 ((t107.length : Int) - 4))))))) x12_2 x13_2 = some r) ∧ Aside0 (kq ≤ kj11) ∧ Aside0 (Kd.R (Kd.int .u32) 24 w' w.heap.size (fun _ => True) (.slice Ao17 t104.length co17) t104) ∧ Aside0 (Kd.R (Kd.int .u8) 5 w' w.heap.size (fun _ => True) (.slice Ao26 t107.length co26) x8_2) ∧ Aside0 (w'.heap[gb101]? = some (.cells #[.int .i64 a0_0, .int .i64 a0_1, .bool a0_2, (.slice A0_3 l0_3.length c0_3)] 59 (0, 0))) ∧ Aside0 (Below w.heap.size w w'))
            case atStart => exact ⟨(t107), (false), (0), (by first | rfl | (simp; done) | (simp [*]; done)), (by first | rfl | (simp; done) | (simp [*]; done)), H', ⟨Nat.le_refl _⟩, ⟨by (with_reducible repeat (first | apply Kd.R_alloc | apply Kd.R_drewN | apply Kd.R_drew)); exact HO_7.out⟩, ⟨by (with_reducible repeat (first | apply Kd.R_alloc | apply Kd.R_drewN | apply Kd.R_drew)); exact HO_8.out⟩, ⟨by (with_reducible repeat (first | refine blk_drewN ?_ _ | refine blk_drew ?_ | refine blk_alloc ?_ _)); exact BK101.out⟩, ⟨by repeat (first | (with_reducible first | exact HB.out | apply below_alloc | apply pw_below_drewN | apply below_drew1 | refine below_set ?_ GE101.out) | exact HB.out)⟩⟩
            case round =>
              clear H'
              try clear c1
              try clear c2
              try clear p2
              try clear c3
              try clear c4
              try clear c5
              try clear p6
              try clear c16
              try clear c19
              try clear c19b0
              try clear c19b1
              try clear c21
              try clear c22
              try clear c22b0
              try clear c22b1
              try clear c25
              try clear c25b0
              try clear c25b1
              try clear hcz14_0
              try clear hcz14_1
              try clear hcz14_2
              try clear hcz14_3
              try clear hcz16_0
              try clear hcz16_1
              try clear hcz16_2
              try clear hcz16_3
              try clear hcz8_0
              try clear hcz8_1
              try clear hcz8_2
              try clear hcz8_3
              try clear hfz14_0
              try clear hfz14_1
              try clear hfz14_2
              try clear hfz14_3
              try clear hfz16_0
              try clear hfz16_1
              try clear hfz16_2
              try clear hfz16_3
              try clear hfz8_0
              try clear hfz8_1
              try clear hfz8_2
              try clear hfz8_3
              try clear p2
              obtain ⟨x8_2, x12_2, x13_2, rfl, rfl, HA, HK2, HO_7, HO_8, BK101, HB⟩ := hrel
              have hl8_2 := (Kd.R_reads' HO_8.out).1
              rw [hl8_2] at HO_8
              (try simp only [hl8_2])
              (try simp only [hl8_2] at BK101)
              (try simp only [hl8_2] at HO_7)
              cases gk with
              | zero => exact absurd HA.out (by simp [psalterylaw19_GramTurned.l0])
              | succ k2 =>
                have H := HA.out
                clear HA
                simp only [psalterylaw19_GramTurned.l0] at H
                have HC27 := Aside0.mk H
                clear H
                go_upto_region 11 with (fail)
                go_cut [57] (fun v57 wc => ∃ (kq : Nat) (x57_26 : Bool), v57 = .bool x57_26 ∧ Aside0 (psalterylaw19_GramTurned.j2 kq a2 t104 x8_2 (wrap64 (8 * (wrap64 ((t107.length : Int) - 4)))) (wrap64 (Int.tmod (IntKind.u64.wrap (a1)) (IntKind.u64.wrap (wrap64 (8 * (wrap64 ((t107.length : Int) - 4))))))) x12_2 x13_2 x57_26 = some r) ∧ Aside0 (kq ≤ k2) ∧ Aside0 (Kd.R (Kd.int .u32) 24 wc w.heap.size (fun _ => True) (.slice Ao17 t104.length co17) t104) ∧ Aside0 (Kd.R (Kd.int .u8) 5 wc w.heap.size (fun _ => True) (.slice Ao26 x8_2.length co26) x8_2) ∧ Aside0 (wc.heap[gb101]? = some (.cells #[.int .i64 a0_0, .int .i64 a0_1, .bool a0_2, (.slice A0_3 l0_3.length c0_3)] 59 (0, 0))) ∧ Aside0 (Below w.heap.size w wc))
                case first =>
                  have H := HC27.out
                  clear HC27
                  by_cases c28 : x13_2 < 32
                  · rw [if_pos c28] at H
                    have c28b0 : decide (x13_2 < 32) = true := decide_eq_true c28
                    (try simp only [hl8_2] at c28b0)
                    clear c28
                    (first | rw [c28b0] | (simp only [i64_w, i32_w]; rw [c28b0]) | skip)
                    have H' := Aside0.mk H
                    clear H
                    go_wp2
                    go_meet
                    case rel => exact ⟨_, (decide ((wrap64 ((wrap64 (Int.tmod (IntKind.u64.wrap (a1)) (IntKind.u64.wrap (wrap64 (8 * (wrap64 ((t107.length : Int) - 4))))))) + x13_2)) < (wrap64 (8 * (wrap64 ((t107.length : Int) - 4)))))), (by first | rfl | (simp; done) | (simp [*]; done)), H', ⟨by have := HJ11.out; have := HK2.out; first | omega | exact Nat.le_refl _⟩, ⟨by (try simp only [hl8_2]); (with_reducible repeat (first | apply Kd.R_alloc | apply Kd.R_drewN | apply Kd.R_drew)); exact HO_7.out⟩, ⟨by (try simp only [hl8_2]); (with_reducible repeat (first | apply Kd.R_alloc | apply Kd.R_drewN | apply Kd.R_drew)); exact HO_8.out⟩, ⟨by (try simp only [hl8_2]); (with_reducible repeat (first | refine blk_drewN ?_ _ | refine blk_drew ?_ | refine blk_alloc ?_ _)); exact BK101.out⟩, ⟨by repeat (first | (with_reducible first | exact HB.out | apply below_alloc | apply pw_below_drewN | apply below_drew1 | refine below_set ?_ GE101.out) | exact HB.out)⟩⟩
                  · rw [if_neg c28] at H
                    have c28b0 : decide (x13_2 < 32) = false := decide_eq_false c28
                    (try simp only [hl8_2] at c28b0)
                    clear c28
                    (first | rw [c28b0] | (simp only [i64_w, i32_w]; rw [c28b0]) | skip)
                    have H' := Aside0.mk H
                    clear H
                    go_wp2
                    go_meet
                    case rel => exact ⟨_, (false), (by first | rfl | (simp; done) | (simp [*]; done)), H', ⟨by have := HJ11.out; have := HK2.out; first | omega | exact Nat.le_refl _⟩, ⟨by (try simp only [hl8_2]); (with_reducible repeat (first | apply Kd.R_alloc | apply Kd.R_drewN | apply Kd.R_drew)); exact HO_7.out⟩, ⟨by (try simp only [hl8_2]); (with_reducible repeat (first | apply Kd.R_alloc | apply Kd.R_drewN | apply Kd.R_drew)); exact HO_8.out⟩, ⟨by (try simp only [hl8_2]); (with_reducible repeat (first | refine blk_drewN ?_ _ | refine blk_drew ?_ | refine blk_alloc ?_ _)); exact BK101.out⟩, ⟨by repeat (first | (with_reducible first | exact HB.out | apply below_alloc | apply pw_below_drewN | apply below_drew1 | refine below_set ?_ GE101.out) | exact HB.out)⟩⟩
                case rest =>
                  clear HC27
                  try clear c1
                  try clear c2
                  try clear p2
                  try clear c3
                  try clear c4
                  try clear c5
                  try clear p6
                  try clear c16
                  try clear c19
                  try clear c19b0
                  try clear c19b1
                  try clear c21
                  try clear c22
                  try clear c22b0
                  try clear c22b1
                  try clear c25
                  try clear c25b0
                  try clear c25b1
                  try clear c28
                  try clear c28b0
                  try clear hcz14_0
                  try clear hcz14_1
                  try clear hcz14_2
                  try clear hcz14_3
                  try clear hcz16_0
                  try clear hcz16_1
                  try clear hcz16_2
                  try clear hcz16_3
                  try clear hcz8_0
                  try clear hcz8_1
                  try clear hcz8_2
                  try clear hcz8_3
                  try clear hfz14_0
                  try clear hfz14_1
                  try clear hfz14_2
                  try clear hfz14_3
                  try clear hfz16_0
                  try clear hfz16_1
                  try clear hfz16_2
                  try clear hfz16_3
                  try clear hfz8_0
                  try clear hfz8_1
                  try clear hfz8_2
                  try clear hfz8_3
                  try clear p2
                  try clear p6
                  obtain ⟨kq, x57_26, rfl, HA, HJ26, HO_7, HO_8, BK101, HB⟩ := hcut
                  cases kq with
                  | zero => exact absurd HA.out (by simp [psalterylaw19_GramTurned.j2])
                  | succ kj26 =>
                    have H := HA.out
                    clear HA
                    simp only [psalterylaw19_GramTurned.j2] at H
                    by_cases c29 : x57_26 = true
                    · subst c29
                      have H1 : (if 0 ≤ x13_2 then (if (Int.tmod (shr .u32 a2 x13_2) 2) = 1 then (if 0 ≤ (wrap64 (Int.tdiv (wrap64 ((wrap64 (Int.tmod (IntKind.u64.wrap (a1)) (IntKind.u64.wrap (wrap64 (8 * (wrap64 ((t107.length : Int) - 4))))))) + x13_2)) 8)) then (if (wrap64 (Int.tdiv (wrap64 ((wrap64 (Int.tmod (IntKind.u64.wrap (a1)) (IntKind.u64.wrap (wrap64 (8 * (wrap64 ((t107.length : Int) - 4))))))) + x13_2)) 8)) < (x8_2.length : Int) then (if 0 ≤ (Int.tmod (wrap64 ((wrap64 (Int.tmod (IntKind.u64.wrap (a1)) (IntKind.u64.wrap (wrap64 (8 * (wrap64 ((t107.length : Int) - 4))))))) + x13_2)) 8) then (psalterylaw19_GramTurned.l0 kj26 a2 t104 (x8_2.set ((wrap64 (Int.tdiv (wrap64 ((wrap64 (Int.tmod (IntKind.u64.wrap (a1)) (IntKind.u64.wrap (wrap64 (8 * (wrap64 ((t107.length : Int) - 4))))))) + x13_2)) 8)) : Int).toNat (Go.bits .xor .u8 (rd x8_2 (wrap64 (Int.tdiv (wrap64 ((wrap64 (Int.tmod (IntKind.u64.wrap (a1)) (IntKind.u64.wrap (wrap64 (8 * (wrap64 ((t107.length : Int) - 4))))))) + x13_2)) 8))) (shl .u8 1 (Int.tmod (wrap64 ((wrap64 (Int.tmod (IntKind.u64.wrap (a1)) (IntKind.u64.wrap (wrap64 (8 * (wrap64 ((t107.length : Int) - 4))))))) + x13_2)) 8)))) (wrap64 (8 * (wrap64 ((t107.length : Int) - 4)))) (wrap64 (Int.tmod (IntKind.u64.wrap (a1)) (IntKind.u64.wrap (wrap64 (8 * (wrap64 ((t107.length : Int) - 4))))))) true (wrap64 (x13_2 + 1))) else (none)) else (none)) else (none)) else (psalterylaw19_GramTurned.l0 kj26 a2 t104 x8_2 (wrap64 (8 * (wrap64 ((t107.length : Int) - 4)))) (wrap64 (Int.tmod (IntKind.u64.wrap (a1)) (IntKind.u64.wrap (wrap64 (8 * (wrap64 ((t107.length : Int) - 4))))))) x12_2 (wrap64 (x13_2 + 1)))) else (none)) = some r := by rw [if_pos rfl] at H; exact H
                      clear H
                      have H := H1
                      clear H1
                      by_cases c30 : 0 ≤ x13_2
                      · rw [if_pos c30] at H
                        have c30b0 := eq_true c30
                        have c30b1 : decide (0 ≤ x13_2) = true := decide_eq_true c30
                        (try simp only [hl8_2] at c30b0)
                        (try simp only [hl8_2] at c30b1)
                        clear c30
                        obtain ⟨ji31, hji31⟩ : ∃ j_ : Int, (shr .u32 a2 x13_2) = j_ := ⟨_, rfl⟩
                        replace H : (if (Int.tmod (ji31) 2) = 1 then (if 0 ≤ (wrap64 (Int.tdiv (wrap64 ((wrap64 (Int.tmod (IntKind.u64.wrap (a1)) (IntKind.u64.wrap (wrap64 (8 * (wrap64 ((t107.length : Int) - 4))))))) + x13_2)) 8)) then (if (wrap64 (Int.tdiv (wrap64 ((wrap64 (Int.tmod (IntKind.u64.wrap (a1)) (IntKind.u64.wrap (wrap64 (8 * (wrap64 ((t107.length : Int) - 4))))))) + x13_2)) 8)) < (x8_2.length : Int) then (if 0 ≤ (Int.tmod (wrap64 ((wrap64 (Int.tmod (IntKind.u64.wrap (a1)) (IntKind.u64.wrap (wrap64 (8 * (wrap64 ((t107.length : Int) - 4))))))) + x13_2)) 8) then (psalterylaw19_GramTurned.l0 kj26 a2 t104 (x8_2.set ((wrap64 (Int.tdiv (wrap64 ((wrap64 (Int.tmod (IntKind.u64.wrap (a1)) (IntKind.u64.wrap (wrap64 (8 * (wrap64 ((t107.length : Int) - 4))))))) + x13_2)) 8)) : Int).toNat (Go.bits .xor .u8 (rd x8_2 (wrap64 (Int.tdiv (wrap64 ((wrap64 (Int.tmod (IntKind.u64.wrap (a1)) (IntKind.u64.wrap (wrap64 (8 * (wrap64 ((t107.length : Int) - 4))))))) + x13_2)) 8))) (shl .u8 1 (Int.tmod (wrap64 ((wrap64 (Int.tmod (IntKind.u64.wrap (a1)) (IntKind.u64.wrap (wrap64 (8 * (wrap64 ((t107.length : Int) - 4))))))) + x13_2)) 8)))) (wrap64 (8 * (wrap64 ((t107.length : Int) - 4)))) (wrap64 (Int.tmod (IntKind.u64.wrap (a1)) (IntKind.u64.wrap (wrap64 (8 * (wrap64 ((t107.length : Int) - 4))))))) true (wrap64 (x13_2 + 1))) else (none)) else (none)) else (none)) else (psalterylaw19_GramTurned.l0 kj26 a2 t104 x8_2 (wrap64 (8 * (wrap64 ((t107.length : Int) - 4)))) (wrap64 (Int.tmod (IntKind.u64.wrap (a1)) (IntKind.u64.wrap (wrap64 (8 * (wrap64 ((t107.length : Int) - 4))))))) x12_2 (wrap64 (x13_2 + 1)))) = some r := by first | (rw [hji31] at H; exact H) | (simp only [hji31] at H ⊢; exact H)
                        have hji31_ : (a2 / 2 ^ min x13_2.toNat 32) = ji31 := hji31
                        have hji31z : x13_2 ≤ 32 → (a2 / 2 ^ x13_2.toNat) = ji31 := shr_small hji31
                        by_cases c32 : (Int.tmod (ji31) 2) = 1
                        · rw [if_pos c32] at H
                          have c32b0 : ((Int.tmod (ji31) 2) == 1) = true := beq_iff_eq.mpr c32
                          (try simp only [hl8_2] at c32b0)
                          have c32b1 : ((Int.tmod (ji31) 2) != 1) = false := bne_eq_false_iff_eq.mpr c32
                          (try simp only [hl8_2] at c32b1)
                          clear c32
                          obtain ⟨ji33, hji33⟩ : ∃ j_ : Int, (wrap64 (Int.tdiv (wrap64 ((wrap64 (Int.tmod (IntKind.u64.wrap (a1)) (IntKind.u64.wrap (wrap64 (8 * (wrap64 ((t107.length : Int) - 4))))))) + x13_2)) 8)) = j_ := ⟨_, rfl⟩
                          replace H : (if 0 ≤ (ji33) then (if (ji33) < (x8_2.length : Int) then (if 0 ≤ (Int.tmod (wrap64 ((wrap64 (Int.tmod (IntKind.u64.wrap (a1)) (IntKind.u64.wrap (wrap64 (8 * (wrap64 ((t107.length : Int) - 4))))))) + x13_2)) 8) then (psalterylaw19_GramTurned.l0 kj26 a2 t104 (x8_2.set ((ji33) : Int).toNat (Go.bits .xor .u8 (rd x8_2 (ji33)) (shl .u8 1 (Int.tmod (wrap64 ((wrap64 (Int.tmod (IntKind.u64.wrap (a1)) (IntKind.u64.wrap (wrap64 (8 * (wrap64 ((t107.length : Int) - 4))))))) + x13_2)) 8)))) (wrap64 (8 * (wrap64 ((t107.length : Int) - 4)))) (wrap64 (Int.tmod (IntKind.u64.wrap (a1)) (IntKind.u64.wrap (wrap64 (8 * (wrap64 ((t107.length : Int) - 4))))))) true (wrap64 (x13_2 + 1))) else (none)) else (none)) else (none)) = some r := by first | (rw [hji33] at H; exact H) | (simp only [hji33] at H ⊢; exact H)
                          have hji33c := hji33
                          (try simp only [hl8_2] at hji33c)
                          have hji33w : (IntKind.i64.wrap (Int.tdiv (wrap64 ((wrap64 (Int.tmod (IntKind.u64.wrap (a1)) (IntKind.u64.wrap (wrap64 (8 * (wrap64 ((t107.length : Int) - 4))))))) + x13_2)) 8)) = ji33 := (i64_w _).trans hji33
                          (try simp only [hl8_2] at hji33w)
                          by_cases c34 : 0 ≤ (ji33)
                          · rw [if_pos c34] at H
                            have c34b0 : decide (0 ≤ (ji33)) = true := decide_eq_true c34
                            (try simp only [hl8_2] at c34b0)
                            clear c34
                            by_cases c35 : (ji33) < (x8_2.length : Int)
                            · rw [if_pos c35] at H
                              have c35b0 : decide ((ji33) < (x8_2.length : Int)) = true := decide_eq_true c35
                              (try simp only [hl8_2] at c35b0)
                              clear c35
                              obtain ⟨ji36, hji36⟩ : ∃ j_ : Int, (Int.tmod (wrap64 ((wrap64 (Int.tmod (IntKind.u64.wrap (a1)) (IntKind.u64.wrap (wrap64 (8 * (wrap64 ((t107.length : Int) - 4))))))) + x13_2)) 8) = j_ := ⟨_, rfl⟩
                              replace H : (if 0 ≤ (ji36) then (psalterylaw19_GramTurned.l0 kj26 a2 t104 (x8_2.set ((ji33) : Int).toNat (Go.bits .xor .u8 (rd x8_2 (ji33)) (shl .u8 1 (ji36)))) (wrap64 (8 * (wrap64 ((t107.length : Int) - 4)))) (wrap64 (Int.tmod (IntKind.u64.wrap (a1)) (IntKind.u64.wrap (wrap64 (8 * (wrap64 ((t107.length : Int) - 4))))))) true (wrap64 (x13_2 + 1))) else (none)) = some r := by first | (rw [hji36] at H; exact H) | (simp only [hji36] at H ⊢; exact H)
                              have hji36c := hji36
                              (try simp only [hl8_2] at hji36c)
                              by_cases c37 : 0 ≤ (ji36)
                              · rw [if_pos c37] at H
                                have c37b0 := eq_true c37
                                have c37b1 : decide (0 ≤ (ji36)) = true := decide_eq_true c37
                                (try simp only [hl8_2] at c37b0)
                                (try simp only [hl8_2] at c37b1)
                                clear c37
                                obtain ⟨ji38, hji38⟩ : ∃ j_ : Int, (shl .u8 1 (ji36)) = j_ := ⟨_, rfl⟩
                                replace H : (psalterylaw19_GramTurned.l0 kj26 a2 t104 (x8_2.set ((ji33) : Int).toNat (Go.bits .xor .u8 (rd x8_2 (ji33)) (ji38))) (wrap64 (8 * (wrap64 ((t107.length : Int) - 4)))) (wrap64 (Int.tmod (IntKind.u64.wrap (a1)) (IntKind.u64.wrap (wrap64 (8 * (wrap64 ((t107.length : Int) - 4))))))) true (wrap64 (x13_2 + 1))) = some r := by first | (rw [hji38] at H; exact H) | (simp only [hji38] at H ⊢; exact H)
                                have hji38_ : (IntKind.u8.wrap (1 * 2 ^ min (ji36).toNat 8)) = ji38 := hji38
                                have hji38z : (ji36) ≤ 8 → (IntKind.u8.wrap (1 * 2 ^ (ji36).toNat)) = ji38 := shl_small hji38
                                have hji38u : (IntKind.u8.wrap (2 ^ min (ji36).toNat 8)) = ji38 := by have h_ := hji38_; rw [Int.one_mul] at h_; exact h_
                                have hji38v : (ji36) ≤ 8 → (IntKind.u8.wrap (2 ^ (ji36).toNat)) = ji38 := fun hle_ => by have h_ := hji38z hle_; rw [Int.one_mul] at h_; exact h_
                                obtain ⟨y113, hy113⟩ : ∃ y_ : List Int, y_ = (x8_2.set ((ji33) : Int).toNat (Go.bits .xor .u8 (rd x8_2 (ji33)) (ji38))) := ⟨_, rfl⟩
                                replace H : (psalterylaw19_GramTurned.l0 kj26 a2 t104 y113 (wrap64 (8 * (wrap64 ((t107.length : Int) - 4)))) (wrap64 (Int.tmod (IntKind.u64.wrap (a1)) (IntKind.u64.wrap (wrap64 (8 * (wrap64 ((t107.length : Int) - 4))))))) true (wrap64 (x13_2 + 1))) = some r := by first | (rw [hy113]; with_reducible exact H) | (have H2_ := (Option.bind_some _ _).symm.trans H; rw [hy113]; with_reducible exact H2_) | (have H2_ := (Option.bind_some _ _).symm.trans H; with_reducible exact H2_) | with_reducible exact H | (rw [hy113]; exact H) | exact H
                                have Ny113 := Aside0.mk hy113
                                clear hy113
                                have H' := Aside0.mk H
                                clear H
                                try go_wp2
                                have n0_ := Aside0.mk (Kd.R_drew HO_7.out)
                                have n1_ := Aside0.mk (Kd.R_drew HO_8.out)
                                have n2_ := Aside0.mk (blk_drew BK101.out)
                                have n3_ := Aside0.mk (below_drew1 HB.out)
                                clear HO_7
                                clear HO_8
                                clear BK101
                                clear HB
                                have HO_7 := n0_
                                have HO_8 := n1_
                                have BK101 := n2_
                                have HB := n3_
                                clear n0_ n1_ n2_ n3_
                                have p112 : 0 ≤ ((ji33) : Int) := of_decide_eq_true (by first | (with_reducible assumption) | assumption)
                                have q112 : (ji33) < (x8_2.length : Int) := of_decide_eq_true (by first | (with_reducible assumption) | assumption)
                                obtain ⟨ad112, e112, hx112_0⟩ := Kd.at_int (Kd.R_reads' HO_8.out).2.2 (ji33) p112 q112
                                cases e112
                                replace p112 := eq_true p112
                                replace q112 := eq_true q112
                                have p39 : 0 ≤ ((ji33) : Int) := of_decide_eq_true (by first | (with_reducible assumption) | assumption)
                                have q39 : ((ji33) : Int) < ((x8_2.length : Int) : Int) := of_decide_eq_true (by first | (with_reducible assumption) | assumption)
                                obtain ⟨go39, co39, eo39, gb39, gl39, cl39, HG39⟩ := Kd.R_form HO_8.out (by omega)
                                (first | cases eo39 | (injection eo39 with ea_ en_ ec_; (first | subst ea_ | (injection ea_ with ea_; subst ea_)); subst ec_; clear en_))
                                have GB39 := Aside0.mk gb39
                                have GG39 := Aside0.mk HG39
                                clear gb39 gl39 HG39
                                (first | simp only [add_plain] at hx112_0 | skip)
                                obtain ⟨hx39_0, hf39_0⟩ := Kd.R_celln 0 HO_8.out ((ji33) : Int) p39 q39
                                replace p39 := eq_true p39
                                replace q39 := eq_true q39
                                have HP41 := Kd.R_putn HO_8.out ((ji33) : Int) (Go.bits .xor .u8 (rd x8_2 (ji33)) (ji38))
                                rw [← Ny113.out] at HP41
                                have HQ41 := Aside0.mk HP41
                                clear HP41
                                refine start_ (n := 20) (S := fun w' => w'.cell? ⟨go39, ((ji33)).toNat, none⟩ = some (.int .u8 (rd x8_2 (ji33)))) (ds := [19]) #[false, false, false, false, false, false, false, false, false, false, false, false, false, false, false, false, false, false, false, false] (by kernel_rfl) rfl rfl (hx112_0) (fun hHeld => ?_); refine with_tabW psalterylaw19_GramTurned.tab14 psalterylaw19_GramTurned.bits14 (fun HT_ HW_ => ?_)
                                generalize wc.drew = w40 at HO_7 HO_8 BK101 HB GG39 HQ41 hf39_0 hx112_0 hx39_0 hHeld ⊢
                                refine pure_ (i := 0) (N := some 65) (v := ?_) (a' := ?_) #[true, false, false, false, false, false, false, false, false, false, false, false, false, false, false, false, false, false, false, false] rfl rfl (any_of HT_.out (by kernel_rfl)) (fun _ _ _ h => h) (Or.inl ⟨by rfl, ?_⟩) ?_ ?_
                                rotate_left
                                · intro w'
                                  go_simp
                                  with_reducible rfl
                                rotate_left
                                · simp only [Act.put, List.setIfInBounds_toArray, List.set_cons_zero, List.set_cons_succ, i64_w, i32_w]
                                  rfl
                                refine pure_ (i := 1) (N := some 66) (v := ?_) (a' := ?_) #[true, true, false, false, false, false, false, false, false, false, false, false, false, false, false, false, false, false, false, false] rfl rfl (any_of HT_.out (by kernel_rfl)) (fun _ _ _ h => h) (Or.inl ⟨by rfl, ?_⟩) ?_ ?_
                                rotate_left
                                · intro w'
                                  go_simp
                                  with_reducible rfl
                                rotate_left
                                · simp only [Act.put, List.setIfInBounds_toArray, List.set_cons_zero, List.set_cons_succ, i64_w, i32_w]
                                  rfl
                                refine pure_ (i := 2) (N := some 67) (v := ?_) (a' := ?_) #[true, true, true, false, false, false, false, false, false, false, false, false, false, false, false, false, false, false, false, false] rfl rfl (any_of HT_.out (by kernel_rfl)) (fun _ _ _ h => h) (Or.inl ⟨by rfl, ?_⟩) ?_ ?_
                                rotate_left
                                · intro w'
                                  go_simp
                                  with_reducible rfl
                                rotate_left
                                · simp only [Act.put, List.setIfInBounds_toArray, List.set_cons_zero, List.set_cons_succ, i64_w, i32_w]
                                  rfl
                                refine pure_ (i := 3) (N := some 68) (v := ?_) (a' := ?_) #[true, true, true, true, false, false, false, false, false, false, false, false, false, false, false, false, false, false, false, false] rfl rfl (any_of HT_.out (by kernel_rfl)) (fun _ _ _ h => h) (Or.inl ⟨by rfl, ?_⟩) ?_ ?_
                                rotate_left
                                · intro w'
                                  go_simp
                                  with_reducible rfl
                                rotate_left
                                · simp only [Act.put, List.setIfInBounds_toArray, List.set_cons_zero, List.set_cons_succ, i64_w, i32_w]
                                  rfl
                                refine pure_ (i := 4) (N := some 69) (v := ?_) (a' := ?_) #[true, true, true, true, true, false, false, false, false, false, false, false, false, false, false, false, false, false, false, false] rfl rfl (any_of HT_.out (by kernel_rfl)) (fun _ _ _ h => h) (Or.inl ⟨by rfl, ?_⟩) ?_ ?_
                                rotate_left
                                · intro w'
                                  go_simp
                                  with_reducible rfl
                                rotate_left
                                · simp only [Act.put, List.setIfInBounds_toArray, List.set_cons_zero, List.set_cons_succ, i64_w, i32_w]
                                  rfl
                                refine pure_ (i := 5) (N := some 70) (v := ?_) (a' := ?_) #[true, true, true, true, true, true, false, false, false, false, false, false, false, false, false, false, false, false, false, false] rfl rfl (any_of HT_.out (by kernel_rfl)) (fun _ _ _ h => h) (Or.inl ⟨by rfl, ?_⟩) ?_ ?_
                                rotate_left
                                · intro w'
                                  go_simp
                                  with_reducible rfl
                                rotate_left
                                · simp only [Act.put, List.setIfInBounds_toArray, List.set_cons_zero, List.set_cons_succ, i64_w, i32_w]
                                  rfl
                                refine pure_ (i := 6) (N := some 71) (v := ?_) (a' := ?_) #[true, true, true, true, true, true, true, false, false, false, false, false, false, false, false, false, false, false, false, false] rfl rfl (any_of HT_.out (by kernel_rfl)) (fun _ _ _ h => h) (Or.inl ⟨by rfl, ?_⟩) ?_ ?_
                                rotate_left
                                · intro w'
                                  go_simp
                                  with_reducible rfl
                                rotate_left
                                · simp only [Act.put, List.setIfInBounds_toArray, List.set_cons_zero, List.set_cons_succ, i64_w, i32_w]
                                  rfl
                                refine pure_ (i := 7) (N := some 72) (v := ?_) (a' := ?_) #[true, true, true, true, true, true, true, true, false, false, false, false, false, false, false, false, false, false, false, false] rfl rfl (any_of HT_.out (by kernel_rfl)) (fun _ _ _ h => h) (Or.inl ⟨by rfl, ?_⟩) ?_ ?_
                                rotate_left
                                · intro w'
                                  go_simp
                                  with_reducible rfl
                                rotate_left
                                · simp only [Act.put, List.setIfInBounds_toArray, List.set_cons_zero, List.set_cons_succ, i64_w, i32_w]
                                  rfl
                                refine pure_ (i := 8) (N := some 73) (v := ?_) (a' := ?_) #[true, true, true, true, true, true, true, true, true, false, false, false, false, false, false, false, false, false, false, false] rfl rfl (any_of HT_.out (by kernel_rfl)) (fun _ _ _ h => h) (Or.inl ⟨by rfl, ?_⟩) ?_ ?_
                                rotate_left
                                · intro w'
                                  go_simp
                                  with_reducible rfl
                                rotate_left
                                · simp only [Act.put, List.setIfInBounds_toArray, List.set_cons_zero, List.set_cons_succ, i64_w, i32_w]
                                  rfl
                                refine pure_ (i := 9) (N := some 74) (v := ?_) (a' := ?_) #[true, true, true, true, true, true, true, true, true, true, false, false, false, false, false, false, false, false, false, false] rfl rfl (any_of HT_.out (by kernel_rfl)) (fun _ _ _ h => h) (Or.inl ⟨by rfl, ?_⟩) ?_ ?_
                                rotate_left
                                · intro w'
                                  go_simp
                                  with_reducible rfl
                                rotate_left
                                · simp only [Act.put, List.setIfInBounds_toArray, List.set_cons_zero, List.set_cons_succ, i64_w, i32_w]
                                  rfl
                                refine pure_ (i := 10) (N := some 75) (v := ?_) (a' := ?_) #[true, true, true, true, true, true, true, true, true, true, true, false, false, false, false, false, false, false, false, false] rfl rfl (any_of HT_.out (by kernel_rfl)) (fun _ _ _ h => h) (Or.inl ⟨by rfl, ?_⟩) ?_ ?_
                                rotate_left
                                · intro w'
                                  go_simp
                                  with_reducible rfl
                                rotate_left
                                · simp only [Act.put, List.setIfInBounds_toArray, List.set_cons_zero, List.set_cons_succ, i64_w, i32_w]
                                  rfl
                                refine pure_ (i := 12) (N := some 77) (v := ?_) (a' := ?_) #[true, true, true, true, true, true, true, true, true, true, true, false, true, false, false, false, false, false, false, false] rfl rfl (any_of HT_.out (by kernel_rfl)) (fun _ _ _ h => h) (Or.inl ⟨by rfl, ?_⟩) ?_ ?_
                                rotate_left
                                · intro w'
                                  go_simp
                                  with_reducible rfl
                                rotate_left
                                · simp only [Act.put, List.setIfInBounds_toArray, List.set_cons_zero, List.set_cons_succ, i64_w, i32_w]
                                  rfl
                                refine pure_ (i := 13) (N := some 78) (v := ?_) (a' := ?_) #[true, true, true, true, true, true, true, true, true, true, true, false, true, true, false, false, false, false, false, false] rfl rfl (any_of HT_.out (by kernel_rfl)) (fun _ _ _ h => h) (Or.inl ⟨by rfl, ?_⟩) ?_ ?_
                                rotate_left
                                · intro w'
                                  go_simp
                                  with_reducible rfl
                                rotate_left
                                · simp only [Act.put, List.setIfInBounds_toArray, List.set_cons_zero, List.set_cons_succ, i64_w, i32_w]
                                  rfl
                                refine pure_ (i := 14) (N := some 79) (v := ?_) (a' := ?_) #[true, true, true, true, true, true, true, true, true, true, true, false, true, true, true, false, false, false, false, false] rfl rfl (any_of HT_.out (by kernel_rfl)) (fun _ _ _ h => h) (Or.inl ⟨by rfl, ?_⟩) ?_ ?_
                                rotate_left
                                · intro w'
                                  go_simp
                                  with_reducible rfl
                                rotate_left
                                · simp only [Act.put, List.setIfInBounds_toArray, List.set_cons_zero, List.set_cons_succ, i64_w, i32_w]
                                  rfl
                                refine pure_ (i := 15) (N := some 80) (v := ?_) (a' := ?_) #[true, true, true, true, true, true, true, true, true, true, true, false, true, true, true, true, false, false, false, false] rfl rfl (any_of HT_.out (by kernel_rfl)) (fun _ _ _ h => h) (Or.inl ⟨by rfl, ?_⟩) ?_ ?_
                                rotate_left
                                · intro w'
                                  go_simp
                                  with_reducible rfl
                                rotate_left
                                · simp only [Act.put, List.setIfInBounds_toArray, List.set_cons_zero, List.set_cons_succ, i64_w, i32_w]
                                  rfl
                                refine pure_ (i := 16) (N := some 81) (v := ?_) (a' := ?_) #[true, true, true, true, true, true, true, true, true, true, true, false, true, true, true, true, true, false, false, false] rfl rfl (any_of HT_.out (by kernel_rfl)) (fun _ _ _ h => h) (Or.inl ⟨by rfl, ?_⟩) ?_ ?_
                                rotate_left
                                · intro w'
                                  go_simp
                                  with_reducible rfl
                                rotate_left
                                · simp only [Act.put, List.setIfInBounds_toArray, List.set_cons_zero, List.set_cons_succ, i64_w, i32_w]
                                  rfl
                                refine take_ (i := 11) (N := some 76) (v := ?_) (a' := ?_) #[true, true, true, true, true, true, true, true, true, true, true, true, true, true, true, true, true, false, false, false] rfl rfl (take_ofW HT_.out HW_.out (by kernel_rfl)) (fun _ _ _ h => h) (Or.inl ⟨by rfl, ?_⟩) hHeld ?_ ?_
                                rotate_left
                                · intro w' s0
                                  go_simp
                                  with_reducible rfl
                                rotate_left
                                · simp only [Act.put, List.setIfInBounds_toArray, List.set_cons_zero, List.set_cons_succ, i64_w, i32_w]
                                  rfl
                                refine pure_ (i := 17) (N := some 82) (v := ?_) (a' := ?_) #[true, true, true, true, true, true, true, true, true, true, true, true, true, true, true, true, true, true, false, false] rfl rfl (any_of HT_.out (by kernel_rfl)) (fun _ _ _ h => h) (Or.inl ⟨by rfl, ?_⟩) ?_ ?_
                                rotate_left
                                · intro w'
                                  go_simp
                                  with_reducible rfl
                                rotate_left
                                · simp only [Act.put, List.setIfInBounds_toArray, List.set_cons_zero, List.set_cons_succ, i64_w, i32_w]
                                  rfl
                                refine pure_ (i := 18) (N := some 83) (v := ?_) (a' := ?_) #[true, true, true, true, true, true, true, true, true, true, true, true, true, true, true, true, true, true, true, false] rfl rfl (any_of HT_.out (by kernel_rfl)) (fun _ _ _ h => h) (Or.inl ⟨by rfl, ?_⟩) ?_ ?_
                                rotate_left
                                · intro w'
                                  go_simp
                                  with_reducible rfl
                                rotate_left
                                · simp only [Act.put, List.setIfInBounds_toArray, List.set_cons_zero, List.set_cons_succ, i64_w, i32_w]
                                  rfl
                                refine last_ (i := 19) (N := none) #[true, true, true, true, true, true, true, true, true, true, true, true, true, true, true, true, true, true, true, true] rfl rfl (one_of HT_.out (by kernel_rfl)) (by decide) (fun K hK => ?_)
                                refine skip_ (w1 := ?_) (by rfl) rfl ?_ ?_
                                rotate_left
                                · go_simp
                                  rfl
                                refine hK.out _ _ ?_
                                clear hK K
                                refine done_ (done_of HT_.out (by kernel_rfl)) ?_
                                try go_wp2
                                (try simp only [← hl8_2])
                                go_roundg kj26
                                case measure => have := HJ11.out; have := HK2.out; have := HJ26.out; omega
                                case rel => exact ⟨(y113), (true), (wrap64 (x13_2 + 1)), (by first | rfl | (simp; done) | (simp [*]; done)), (by first | rfl | (simp; done) | (simp [*]; done)), H', ⟨by have := HJ11.out; have := HK2.out; have := HJ26.out; omega⟩, ⟨by (try simp only [hl8_2]); (with_reducible repeat (first | apply Kd.R_alloc | apply Kd.R_drewN | apply Kd.R_drew)); exact Kd.R_mono (Kd.R_far (p := ⟨go39, ((ji33) : Int).toNat, none⟩) (Kd.R_types HO_7.out GG39.out (by decide)) (fun _ hk => hk.2) (.int .u8 (Go.bits .xor .u8 (rd x8_2 (ji33)) (ji38)))) (fun _ hk => trivial)⟩, ⟨by (try simp only [hl8_2]); (with_reducible repeat (first | apply Kd.R_alloc | apply Kd.R_drewN | apply Kd.R_drew)); exact HQ41.out⟩, ⟨by (try simp only [hl8_2]); (with_reducible repeat (first | refine blk_drewN ?_ _ | refine blk_drew ?_ | refine blk_alloc ?_ _)); refine blk_far ?_ (by have h_ := Kd.R_ne HO_8.out BK101.out (by decide); intro e_; exact h_ (by rw [e_]; rfl)) _; (with_reducible repeat (first | refine blk_drewN ?_ _ | refine blk_drew ?_ | refine blk_alloc ?_ _)); exact BK101.out⟩, ⟨by repeat (first | (with_reducible first | exact HB.out | apply below_alloc | apply pw_below_drewN | apply below_drew1 | refine below_set ?_ GB39.out | refine below_set ?_ GE101.out) | exact HB.out)⟩⟩
                              · rw [if_neg c37] at H
                                exact absurd H (by simp)
                            · rw [if_neg c35] at H
                              exact absurd H (by simp)
                          · rw [if_neg c34] at H
                            exact absurd H (by simp)
                        · rw [if_neg c32] at H
                          have c32b0 : ((Int.tmod (ji31) 2) == 1) = false := beq_eq_false_iff_ne.mpr c32
                          (try simp only [hl8_2] at c32b0)
                          have c32b1 : ((Int.tmod (ji31) 2) != 1) = true := bne_iff_ne.mpr c32
                          (try simp only [hl8_2] at c32b1)
                          have H' := Aside0.mk H
                          clear H
                          go_wp2
                          (try simp only [← hl8_2])
                          go_roundg kj26
                          case measure => have := HJ11.out; have := HK2.out; have := HJ26.out; omega
                          case rel => exact ⟨(x8_2), (x12_2), (wrap64 (x13_2 + 1)), (by first | rfl | (simp; done) | (simp [*]; done)), (by first | rfl | (simp; done) | (simp [*]; done)), H', ⟨by have := HJ11.out; have := HK2.out; have := HJ26.out; omega⟩, ⟨by (try simp only [hl8_2]); (with_reducible repeat (first | apply Kd.R_alloc | apply Kd.R_drewN | apply Kd.R_drew)); exact HO_7.out⟩, ⟨by (try simp only [hl8_2]); (with_reducible repeat (first | apply Kd.R_alloc | apply Kd.R_drewN | apply Kd.R_drew)); exact HO_8.out⟩, ⟨by (try simp only [hl8_2]); (with_reducible repeat (first | refine blk_drewN ?_ _ | refine blk_drew ?_ | refine blk_alloc ?_ _)); exact BK101.out⟩, ⟨by repeat (first | (with_reducible first | exact HB.out | apply below_alloc | apply pw_below_drewN | apply below_drew1 | refine below_set ?_ GE101.out) | exact HB.out)⟩⟩
                      · rw [if_neg c30] at H
                        exact absurd H (by simp)
                    · replace c29 := Bool.eq_false_iff.mpr c29
                      subst c29
                      have H1 : (if x12_2 = true then ((dgram_Read.f t104 x8_2).bind fun bt115 => ((psalterylaw19_As.f bt115.1 bt115.2.1 bt115.2.2.1 bt115.2.2.2.1).bind fun _ => ((psalteryref19_Same.f bt115.1 bt115.2.1 bt115.2.2.1 bt115.2.2.2.1 0 0 false ([] : List Int)).bind fun t123 => (if t123 = true then (if bt115.2.2.2.2 = 6 then ((psalterylaw19_knows.f).bind fun t124 => (some t124)) else (some false)) else (some false))))) else ((psalterylaw19_knows.f).bind fun t114 => (some t114))) = some r := by rw [if_neg (show ¬ (false = true) by decide)] at H; exact H
                      clear H
                      have H := H1
                      clear H1
                      by_cases c42 : x12_2 = true
                      · subst c42
                        have H1 : ((dgram_Read.f t104 x8_2).bind fun bt115 => ((psalterylaw19_As.f bt115.1 bt115.2.1 bt115.2.2.1 bt115.2.2.2.1).bind fun _ => ((psalteryref19_Same.f bt115.1 bt115.2.1 bt115.2.2.1 bt115.2.2.2.1 0 0 false ([] : List Int)).bind fun t123 => (if t123 = true then (if bt115.2.2.2.2 = 6 then ((psalterylaw19_knows.f).bind fun t124 => (some t124)) else (some false)) else (some false))))) = some r := by rw [if_pos rfl] at H; exact H
                        clear H
                        have H := H1
                        clear H1
                        replace H := Option.bind_eq_some_iff.mp H
                        obtain ⟨⟨t115, t116, t117, t118, t121⟩, A430, H⟩ := H
                        replace H : ((psalterylaw19_As.f t115 t116 t117 t118).bind fun _ => ((psalteryref19_Same.f t115 t116 t117 t118 0 0 false ([] : List Int)).bind fun t123 => (if t123 = true then (if t121 = 6 then ((psalterylaw19_knows.f).bind fun t124 => (some t124)) else (some false)) else (some false)))) = some r := H
                        have A43 := Aside0.mk A430
                        clear A430
                        replace H := Option.bind_eq_some_iff.mp H
                        obtain ⟨_, A440, H⟩ := H
                        replace H : ((psalteryref19_Same.f t115 t116 t117 t118 0 0 false ([] : List Int)).bind fun t123 => (if t123 = true then (if t121 = 6 then ((psalterylaw19_knows.f).bind fun t124 => (some t124)) else (some false)) else (some false))) = some r := H
                        have A44 := Aside0.mk A440
                        clear A440
                        replace H := Option.bind_eq_some_iff.mp H
                        obtain ⟨t123, A450, H⟩ := H
                        replace H : (if t123 = true then (if t121 = 6 then ((psalterylaw19_knows.f).bind fun t124 => (some t124)) else (some false)) else (some false)) = some r := H
                        have A45 := Aside0.mk A450
                        clear A450
                        by_cases c46 : t123 = true
                        · subst c46
                          have H1 : (if t121 = 6 then ((psalterylaw19_knows.f).bind fun t124 => (some t124)) else (some false)) = some r := by rw [if_pos rfl] at H; exact H
                          clear H
                          have H := H1
                          clear H1
                          by_cases c47 : t121 = 6
                          · rw [if_pos c47] at H
                            have c47b0 : (t121 == 6) = true := beq_iff_eq.mpr c47
                            (try simp only [hl8_2] at c47b0)
                            have c47b1 : (t121 != 6) = false := bne_eq_false_iff_eq.mpr c47
                            (try simp only [hl8_2] at c47b1)
                            clear c47
                            replace H := Option.bind_eq_some_iff.mp H
                            obtain ⟨t124, A480, H⟩ := H
                            replace H : (some t124) = some r := H
                            have A48 := Aside0.mk A480
                            clear A480
                            obtain rfl := Option.some.inj H
                            go_wp2_with (first | ((with_reducible refine gate_callee (f := 46) rfl ?_); refine goesL_ (some 90) rfl rfl Try.func46 (by kernel_rfl) rfl #[.slice Ao17 t104.length co17, .slice Ao26 x8_2.length co26] rfl (by (try simp only [List.map_toArray, List.map_cons, List.map_nil]); first | done | rfl | (simp only [List.length_drop, List.length_take]; rfl)) ?_; (with_reducible refine (dgram_Read.calls _ _ t104 _ _ x8_2 t115 t116 t117 t118 t121 _ ?side1 ?side2 ?side3 ?side4 A43.out).mono ?_); (case side1 => repeat (first | exact (Kd.R_reads' HO_7.out).2.2 | (with_reducible refine Kd.C_alloc ?_ _) | (with_reducible refine Kd.C_drewN ?_ _) | (with_reducible refine Kd.C_drew ?_))); (case side2 => exact (Kd.R_reads' HO_7.out).2.1); (case side3 => repeat (first | exact (Kd.R_reads' HO_8.out).2.2 | (with_reducible refine Kd.C_alloc ?_ _) | (with_reducible refine Kd.C_drewN ?_ _) | (with_reducible refine Kd.C_drew ?_))); (case side4 => exact (Kd.R_reads' HO_8.out).2.1); rintro e w49 ⟨v119, rfl, ho0, hb⟩; refine ⟨_, rfl, ?_⟩; have n0_ := Aside0.mk (Kd.R_below (by (with_reducible repeat (first | apply Kd.R_alloc | apply Kd.R_drewN | apply Kd.R_drew)); exact HO_7.out) hb); have n1_ := Aside0.mk (Kd.R_elder' (by (with_reducible repeat (first | apply Kd.R_alloc | apply Kd.R_drewN | apply Kd.R_drew)); exact HO_8.out) (Kd.R_base ho0) hb); have n2_ := Aside0.mk (Kd.R_lower (Kd.R_new' ho0 (Kd.R_lt (by (with_reducible repeat (first | apply Kd.R_alloc | apply Kd.R_drewN | apply Kd.R_drew)); exact HO_8.out))) (below_size (by repeat (first | (with_reducible first | exact HB.out | apply below_alloc | apply pw_below_drewN | apply below_drew1 | refine below_set ?_ GE101.out) | exact HB.out)))); have n3_ := Aside0.mk (blk_below (g := gb101) (o := .cells #[.int .i64 a0_0, .int .i64 a0_1, .bool a0_2, .slice A0_3 l0_3.length c0_3] 59 (0, 0)) (by (with_reducible repeat (first | refine blk_drewN ?_ _ | refine blk_drew ?_ | refine blk_alloc ?_ _)); exact BK101.out) hb); have n4_ := Aside0.mk (below_step (by repeat (first | (with_reducible first | exact HB.out | apply below_alloc | apply pw_below_drewN | apply below_drew1 | refine below_set ?_ GE101.out) | exact HB.out)) hb); clear HO_7; clear HO_8; clear BK101; clear HB; have HO_7 := n0_; have HO_8 := n1_; have HO120 := n2_; have BK101 := n3_; have HB := n4_; clear n0_ n1_ n2_ n3_ n4_; (try clear hb); (try clear hb2); (try clear hk); (try clear hi); (try clear ho0)) | ((with_reducible refine gate_dst (N := 14) rfl ?_); (try (refine gate_guard (by rfl) ?_; dsimp only)); refine box_event ?hg (N := 14) ?hd (cs := #[.int .i64 0, .int .i64 0, .bool false, .slice none 0 0]) (t := 59) ?hr ?_; (case hd => rfl); (case hg => rfl); (case hr => first | (go_simp; done) | (go_simp; rfl)); intro gb122 hg w50 hbox hb; have n0_ := Aside0.mk (Kd.R_below (by (with_reducible repeat (first | apply Kd.R_alloc | apply Kd.R_drewN | apply Kd.R_drew)); exact HO_7.out) hb); have n1_ := Aside0.mk (Kd.R_below (by (with_reducible repeat (first | apply Kd.R_alloc | apply Kd.R_drewN | apply Kd.R_drew)); exact HO_8.out) hb); have n2_ := Aside0.mk (Kd.R_below (by (with_reducible repeat (first | apply Kd.R_alloc | apply Kd.R_drewN | apply Kd.R_drew)); exact HO120.out) hb); have n3_ := Aside0.mk (blk_below (g := gb101) (o := .cells #[.int .i64 a0_0, .int .i64 a0_1, .bool a0_2, .slice A0_3 l0_3.length c0_3] 59 (0, 0)) (by (with_reducible repeat (first | refine blk_drewN ?_ _ | refine blk_drew ?_ | refine blk_alloc ?_ _)); exact BK101.out) hb); have n4_ := Aside0.mk (below_step (by repeat (first | (with_reducible first | exact HB.out | apply below_alloc | apply pw_below_drewN | apply below_drew1 | refine below_set ?_ GE101.out) | exact HB.out)) hb); have n5_ := Aside0.mk (hbox); have n6_ := Aside0.mk ((by rw [hg]; exact (below_size (by repeat (first | (with_reducible first | exact HB.out | apply below_alloc | apply pw_below_drewN | apply below_drew1 | refine below_set ?_ GE101.out) | exact HB.out))) : w.heap.size ≤ gb122)); have n7_ := Aside0.mk ((by rw [hg]; exact (below_size (by repeat (first | (with_reducible first | exact HB.out | apply below_alloc | apply pw_below_drewN | apply below_drew1 | refine below_set ?_ GE101.out) | exact HB.out))) : w.heap.size ≤ gb122)); have n8_ := Aside0.mk ((by rw [hg]; exact Nat.ne_of_lt (blk_lt (g := gb101) (o := .cells #[.int .i64 a0_0, .int .i64 a0_1, .bool a0_2, .slice A0_3 l0_3.length c0_3] 59 (0, 0)) (by (with_reducible repeat (first | refine blk_drewN ?_ _ | refine blk_drew ?_ | refine blk_alloc ?_ _)); exact BK101.out)) : gb101 ≠ gb122)); have n9_ := Aside0.mk ((by rw [hg]; exact Nat.ne_of_gt (blk_lt (g := gb101) (o := .cells #[.int .i64 a0_0, .int .i64 a0_1, .bool a0_2, .slice A0_3 l0_3.length c0_3] 59 (0, 0)) (by (with_reducible repeat (first | refine blk_drewN ?_ _ | refine blk_drew ?_ | refine blk_alloc ?_ _)); exact BK101.out)) : gb122 ≠ gb101)); clear HO_7; clear HO_8; clear HO120; clear BK101; clear HB; have HO_7 := n0_; have HO_8 := n1_; have HO120 := n2_; have BK101 := n3_; have HB := n4_; have BK122 := n5_; have GW122 := n6_; have GE122 := n7_; have NB101_122 := n8_; have NB122_101 := n9_; clear n0_ n1_ n2_ n3_ n4_ n5_ n6_ n7_ n8_ n9_; clear hb hbox hg; have hnb51 := NB122_101.out; have hnc51 := NB101_122.out; have hcz52_0 : w50.cell? ⟨gb122, 0, none⟩ = some (.int .i64 0) := (blk_cell BK122.out 0).trans rfl; have hcz52_1 : w50.cell? ⟨gb122, 1, none⟩ = some (.int .i64 0) := (blk_cell BK122.out 1).trans rfl; have hcz52_2 : w50.cell? ⟨gb122, 2, none⟩ = some (.bool false) := (blk_cell BK122.out 2).trans rfl; have hcz52_3 : w50.cell? ⟨gb122, 3, none⟩ = some (.slice none 0 0) := (blk_cell BK122.out 3).trans rfl; have hfz52_0 := blk_frozen BK122.out 0; have hfz52_1 := blk_frozen BK122.out 1; have hfz52_2 := blk_frozen BK122.out 2; have hfz52_3 := blk_frozen BK122.out 3; obtain ⟨Ao53, co53, eo53⟩ := Kd.R_slice HO120.out; subst eo53) | ((with_reducible refine gate_callee (f := 44) rfl ?_); refine goesL_ (some 94) rfl rfl Try.func44 (by kernel_rfl) rfl #[.agg #[.int .i64 t115, .int .i64 t116, .bool t117, .slice Ao53 t118.length co53]] rfl (by (try simp only [List.map_toArray, List.map_cons, List.map_nil]); first | done | rfl | (simp only [List.length_drop, List.length_take]; rfl)) ?_; (with_reducible refine (psalterylaw19_As.calls t115 t116 t117 _ _ t118  _ ?side1 ?side2 A44.out).mono ?_); (case side1 => refine (Kd.R_reads' (e := 5) (base := w.heap.size) (ok := fun k_ => (True ∧ some k_ ≠ (.slice Ao26 x8_2.length co26 : Value).ownBlock)) (n := t118.length) (c := co53) ?_).2.2; exact (by (with_reducible repeat (first | apply Kd.R_alloc | apply Kd.R_drewN | apply Kd.R_drew)); exact (Kd.R_mono (Kd.R_far (p := ⟨gb122, 3, none⟩) (Kd.R_far (p := ⟨gb122, 2, none⟩) (Kd.R_far (p := ⟨gb122, 1, none⟩) (Kd.R_far (p := ⟨gb122, 0, none⟩) (Kd.R_types HO120.out BK122.out (by decide)) (fun _ hk => hk.2) (.int .i64 t115)) (fun _ hk => hk.2) (.int .i64 t116)) (fun _ hk => hk.2) (.bool t117)) (fun _ hk => hk.2) (.slice Ao53 t118.length co53)) (fun _ h_ => h_.1)))); (case side2 => exact (Kd.R_reads' HO120.out).2.1); rintro e w54 ⟨rfl, hb⟩; refine ⟨_, rfl, ?_⟩; have n0_ := Aside0.mk (Kd.R_below (by (with_reducible repeat (first | apply Kd.R_alloc | apply Kd.R_drewN | apply Kd.R_drew)); exact (Kd.R_mono (Kd.R_far (p := ⟨gb122, 3, none⟩) (Kd.R_far (p := ⟨gb122, 2, none⟩) (Kd.R_far (p := ⟨gb122, 1, none⟩) (Kd.R_far (p := ⟨gb122, 0, none⟩) (Kd.R_types HO_7.out BK122.out (by decide)) (fun _ hk => hk.2) (.int .i64 t115)) (fun _ hk => hk.2) (.int .i64 t116)) (fun _ hk => hk.2) (.bool t117)) (fun _ hk => hk.2) (.slice Ao53 t118.length co53)) (fun _ h_ => h_.1))) hb); have n1_ := Aside0.mk (Kd.R_below (by (with_reducible repeat (first | apply Kd.R_alloc | apply Kd.R_drewN | apply Kd.R_drew)); exact (Kd.R_mono (Kd.R_far (p := ⟨gb122, 3, none⟩) (Kd.R_far (p := ⟨gb122, 2, none⟩) (Kd.R_far (p := ⟨gb122, 1, none⟩) (Kd.R_far (p := ⟨gb122, 0, none⟩) (Kd.R_types HO_8.out BK122.out (by decide)) (fun _ hk => hk.2) (.int .i64 t115)) (fun _ hk => hk.2) (.int .i64 t116)) (fun _ hk => hk.2) (.bool t117)) (fun _ hk => hk.2) (.slice Ao53 t118.length co53)) (fun _ h_ => h_.1))) hb); have n2_ := Aside0.mk (Kd.R_below (by (with_reducible repeat (first | apply Kd.R_alloc | apply Kd.R_drewN | apply Kd.R_drew)); exact (Kd.R_mono (Kd.R_far (p := ⟨gb122, 3, none⟩) (Kd.R_far (p := ⟨gb122, 2, none⟩) (Kd.R_far (p := ⟨gb122, 1, none⟩) (Kd.R_far (p := ⟨gb122, 0, none⟩) (Kd.R_types HO120.out BK122.out (by decide)) (fun _ hk => hk.2) (.int .i64 t115)) (fun _ hk => hk.2) (.int .i64 t116)) (fun _ hk => hk.2) (.bool t117)) (fun _ hk => hk.2) (.slice Ao53 t118.length co53)) (fun _ h_ => h_.1))) hb); have n3_ := Aside0.mk (blk_below (g := gb101) (o := .cells #[.int .i64 a0_0, .int .i64 a0_1, .bool a0_2, .slice A0_3 l0_3.length c0_3] 59 (0, 0)) (by (with_reducible repeat (first | refine blk_drewN ?_ _ | refine blk_drew ?_ | refine blk_alloc ?_ _)); refine blk_far ?_ NB101_122.out _; (with_reducible repeat (first | refine blk_drewN ?_ _ | refine blk_drew ?_ | refine blk_alloc ?_ _)); refine blk_far ?_ NB101_122.out _; (with_reducible repeat (first | refine blk_drewN ?_ _ | refine blk_drew ?_ | refine blk_alloc ?_ _)); refine blk_far ?_ NB101_122.out _; (with_reducible repeat (first | refine blk_drewN ?_ _ | refine blk_drew ?_ | refine blk_alloc ?_ _)); refine blk_far ?_ NB101_122.out _; (with_reducible repeat (first | refine blk_drewN ?_ _ | refine blk_drew ?_ | refine blk_alloc ?_ _)); exact BK101.out) hb); have n4_ := Aside0.mk (blk_below (g := gb122) (o := .cells #[.int .i64 t115, .int .i64 t116, .bool t117, .slice Ao53 t118.length co53] 59 (0, 0)) (by (with_reducible repeat (first | refine blk_drewN ?_ _ | refine blk_drew ?_ | refine blk_alloc ?_ _)); refine blk_put (cs := #[.int .i64 t115, .int .i64 t116, .bool t117, .slice none 0 0]) ?_ 3 _ rfl; (with_reducible repeat (first | refine blk_drewN ?_ _ | refine blk_drew ?_ | refine blk_alloc ?_ _)); refine blk_put (cs := #[.int .i64 t115, .int .i64 t116, .bool false, .slice none 0 0]) ?_ 2 _ rfl; (with_reducible repeat (first | refine blk_drewN ?_ _ | refine blk_drew ?_ | refine blk_alloc ?_ _)); refine blk_put (cs := #[.int .i64 t115, .int .i64 0, .bool false, .slice none 0 0]) ?_ 1 _ rfl; (with_reducible repeat (first | refine blk_drewN ?_ _ | refine blk_drew ?_ | refine blk_alloc ?_ _)); refine blk_put (cs := #[.int .i64 0, .int .i64 0, .bool false, .slice none 0 0]) ?_ 0 _ rfl; (with_reducible repeat (first | refine blk_drewN ?_ _ | refine blk_drew ?_ | refine blk_alloc ?_ _)); exact BK122.out) hb); have n5_ := Aside0.mk (below_step (by repeat (first | (with_reducible first | exact HB.out | apply below_alloc | apply pw_below_drewN | apply below_drew1 | refine below_set ?_ GE101.out | refine below_set ?_ GE122.out) | exact HB.out)) hb); clear HO_7; clear HO_8; clear HO120; clear BK101; clear BK122; clear HB; have HO_7 := n0_; have HO_8 := n1_; have HO120 := n2_; have BK101 := n3_; have BK122 := n4_; have HB := n5_; clear n0_ n1_ n2_ n3_ n4_ n5_; (try clear hb); (try clear hb2); (try clear hk); (try clear hi)) | ((with_reducible refine gate_callee (f := 47) rfl ?_); refine goesL_ (some 96) rfl rfl Try.func47 (by kernel_rfl) rfl #[.agg #[.int .i64 t115, .int .i64 t116, .bool t117, .slice Ao53 t118.length co53], .agg #[.int .i64 0, .int .i64 0, .bool false, .slice none 0 0]] rfl (by (try simp only [List.map_toArray, List.map_cons, List.map_nil]); first | done | rfl | (simp only [List.length_drop, List.length_take]; rfl)) ?_; (refine (psalteryref19_Same.calls t115 t116 t117 _ _ t118 0 0 false _ _ ([] : List Int) true _ ?side1 ?side2 ?side3 ?side4 A45.out).mono ?_); (case side1 => repeat (first | exact (Kd.R_reads' HO120.out).2.2 | (with_reducible refine Kd.C_alloc ?_ _) | (with_reducible refine Kd.C_drewN ?_ _) | (with_reducible refine Kd.C_drew ?_))); (case side2 => exact (Kd.R_reads' HO120.out).2.1); (case side3 => exact Kd.C_nil _ _); (case side4 => exact Nat.le_refl _); rintro e w55 ⟨rfl, hb⟩; refine ⟨_, rfl, ?_⟩; have n0_ := Aside0.mk (Kd.R_below (by (with_reducible repeat (first | apply Kd.R_alloc | apply Kd.R_drewN | apply Kd.R_drew)); exact HO_7.out) hb); have n1_ := Aside0.mk (Kd.R_below (by (with_reducible repeat (first | apply Kd.R_alloc | apply Kd.R_drewN | apply Kd.R_drew)); exact HO_8.out) hb); have n2_ := Aside0.mk (Kd.R_below (by (with_reducible repeat (first | apply Kd.R_alloc | apply Kd.R_drewN | apply Kd.R_drew)); exact HO120.out) hb); have n3_ := Aside0.mk (blk_below (g := gb101) (o := .cells #[.int .i64 a0_0, .int .i64 a0_1, .bool a0_2, .slice A0_3 l0_3.length c0_3] 59 (0, 0)) (by (with_reducible repeat (first | refine blk_drewN ?_ _ | refine blk_drew ?_ | refine blk_alloc ?_ _)); exact BK101.out) hb); have n4_ := Aside0.mk (blk_below (g := gb122) (o := .cells #[.int .i64 t115, .int .i64 t116, .bool t117, .slice Ao53 t118.length co53] 59 (0, 0)) (by (with_reducible repeat (first | refine blk_drewN ?_ _ | refine blk_drew ?_ | refine blk_alloc ?_ _)); exact BK122.out) hb); have n5_ := Aside0.mk (below_step (by repeat (first | (with_reducible first | exact HB.out | apply below_alloc | apply pw_below_drewN | apply below_drew1 | refine below_set ?_ GE101.out | refine below_set ?_ GE122.out) | exact HB.out)) hb); clear HO_7; clear HO_8; clear HO120; clear BK101; clear BK122; clear HB; have HO_7 := n0_; have HO_8 := n1_; have HO120 := n2_; have BK101 := n3_; have BK122 := n4_; have HB := n5_; clear n0_ n1_ n2_ n3_ n4_ n5_; (try clear hb); (try clear hb2); (try clear hk); (try clear hi)) | (go_at_call 40; (with_reducible refine (psalterylaw19_knows.calls  t124 _ A48.out).mono ?_); rintro e w56 ⟨rfl, hb⟩; have n0_ := Aside0.mk (Kd.R_below (by (with_reducible repeat (first | apply Kd.R_alloc | apply Kd.R_drewN | apply Kd.R_drew)); exact HO_7.out) hb); have n1_ := Aside0.mk (Kd.R_below (by (with_reducible repeat (first | apply Kd.R_alloc | apply Kd.R_drewN | apply Kd.R_drew)); exact HO_8.out) hb); have n2_ := Aside0.mk (Kd.R_below (by (with_reducible repeat (first | apply Kd.R_alloc | apply Kd.R_drewN | apply Kd.R_drew)); exact HO120.out) hb); have n3_ := Aside0.mk (blk_below (g := gb101) (o := .cells #[.int .i64 a0_0, .int .i64 a0_1, .bool a0_2, .slice A0_3 l0_3.length c0_3] 59 (0, 0)) (by (with_reducible repeat (first | refine blk_drewN ?_ _ | refine blk_drew ?_ | refine blk_alloc ?_ _)); exact BK101.out) hb); have n4_ := Aside0.mk (blk_below (g := gb122) (o := .cells #[.int .i64 t115, .int .i64 t116, .bool t117, .slice Ao53 t118.length co53] 59 (0, 0)) (by (with_reducible repeat (first | refine blk_drewN ?_ _ | refine blk_drew ?_ | refine blk_alloc ?_ _)); exact BK122.out) hb); have n5_ := Aside0.mk (below_step (by repeat (first | (with_reducible first | exact HB.out | apply below_alloc | apply pw_below_drewN | apply below_drew1 | refine below_set ?_ GE101.out | refine below_set ?_ GE122.out) | exact HB.out)) hb); clear HO_7; clear HO_8; clear HO120; clear BK101; clear BK122; clear HB; have HO_7 := n0_; have HO_8 := n1_; have HO120 := n2_; have BK101 := n3_; have BK122 := n4_; have HB := n5_; clear n0_ n1_ n2_ n3_ n4_ n5_; (try clear hb); (try clear hb2); (try clear hk); (try clear hi)))
                            go_ret
                            exact ⟨by first | rfl | (simp [errW_none, errW_some] <;> rfl) | (simp [*, errW_none, errW_some] <;> rfl), by repeat (first | (with_reducible first | exact HB.out | apply below_alloc | apply pw_below_drewN | apply below_drew1 | refine below_set ?_ GE101.out | refine below_set ?_ GE122.out) | exact HB.out)⟩
                          · rw [if_neg c47] at H
                            have c47b0 : (t121 == 6) = false := beq_eq_false_iff_ne.mpr c47
                            (try simp only [hl8_2] at c47b0)
                            have c47b1 : (t121 != 6) = true := bne_iff_ne.mpr c47
                            (try simp only [hl8_2] at c47b1)
                            obtain rfl := Option.some.inj H
                            go_wp2_with (first | ((with_reducible refine gate_callee (f := 46) rfl ?_); refine goesL_ (some 90) rfl rfl Try.func46 (by kernel_rfl) rfl #[.slice Ao17 t104.length co17, .slice Ao26 x8_2.length co26] rfl (by (try simp only [List.map_toArray, List.map_cons, List.map_nil]); first | done | rfl | (simp only [List.length_drop, List.length_take]; rfl)) ?_; (with_reducible refine (dgram_Read.calls _ _ t104 _ _ x8_2 t115 t116 t117 t118 t121 _ ?side1 ?side2 ?side3 ?side4 A43.out).mono ?_); (case side1 => repeat (first | exact (Kd.R_reads' HO_7.out).2.2 | (with_reducible refine Kd.C_alloc ?_ _) | (with_reducible refine Kd.C_drewN ?_ _) | (with_reducible refine Kd.C_drew ?_))); (case side2 => exact (Kd.R_reads' HO_7.out).2.1); (case side3 => repeat (first | exact (Kd.R_reads' HO_8.out).2.2 | (with_reducible refine Kd.C_alloc ?_ _) | (with_reducible refine Kd.C_drewN ?_ _) | (with_reducible refine Kd.C_drew ?_))); (case side4 => exact (Kd.R_reads' HO_8.out).2.1); rintro e w57 ⟨v119, rfl, ho0, hb⟩; refine ⟨_, rfl, ?_⟩; have n0_ := Aside0.mk (Kd.R_below (by (with_reducible repeat (first | apply Kd.R_alloc | apply Kd.R_drewN | apply Kd.R_drew)); exact HO_7.out) hb); have n1_ := Aside0.mk (Kd.R_elder' (by (with_reducible repeat (first | apply Kd.R_alloc | apply Kd.R_drewN | apply Kd.R_drew)); exact HO_8.out) (Kd.R_base ho0) hb); have n2_ := Aside0.mk (Kd.R_lower (Kd.R_new' ho0 (Kd.R_lt (by (with_reducible repeat (first | apply Kd.R_alloc | apply Kd.R_drewN | apply Kd.R_drew)); exact HO_8.out))) (below_size (by repeat (first | (with_reducible first | exact HB.out | apply below_alloc | apply pw_below_drewN | apply below_drew1 | refine below_set ?_ GE101.out) | exact HB.out)))); have n3_ := Aside0.mk (blk_below (g := gb101) (o := .cells #[.int .i64 a0_0, .int .i64 a0_1, .bool a0_2, .slice A0_3 l0_3.length c0_3] 59 (0, 0)) (by (with_reducible repeat (first | refine blk_drewN ?_ _ | refine blk_drew ?_ | refine blk_alloc ?_ _)); exact BK101.out) hb); have n4_ := Aside0.mk (below_step (by repeat (first | (with_reducible first | exact HB.out | apply below_alloc | apply pw_below_drewN | apply below_drew1 | refine below_set ?_ GE101.out) | exact HB.out)) hb); clear HO_7; clear HO_8; clear BK101; clear HB; have HO_7 := n0_; have HO_8 := n1_; have HO120 := n2_; have BK101 := n3_; have HB := n4_; clear n0_ n1_ n2_ n3_ n4_; (try clear hb); (try clear hb2); (try clear hk); (try clear hi); (try clear ho0)) | ((with_reducible refine gate_dst (N := 14) rfl ?_); (try (refine gate_guard (by rfl) ?_; dsimp only)); refine box_event ?hg (N := 14) ?hd (cs := #[.int .i64 0, .int .i64 0, .bool false, .slice none 0 0]) (t := 59) ?hr ?_; (case hd => rfl); (case hg => rfl); (case hr => first | (go_simp; done) | (go_simp; rfl)); intro gb122 hg w58 hbox hb; have n0_ := Aside0.mk (Kd.R_below (by (with_reducible repeat (first | apply Kd.R_alloc | apply Kd.R_drewN | apply Kd.R_drew)); exact HO_7.out) hb); have n1_ := Aside0.mk (Kd.R_below (by (with_reducible repeat (first | apply Kd.R_alloc | apply Kd.R_drewN | apply Kd.R_drew)); exact HO_8.out) hb); have n2_ := Aside0.mk (Kd.R_below (by (with_reducible repeat (first | apply Kd.R_alloc | apply Kd.R_drewN | apply Kd.R_drew)); exact HO120.out) hb); have n3_ := Aside0.mk (blk_below (g := gb101) (o := .cells #[.int .i64 a0_0, .int .i64 a0_1, .bool a0_2, .slice A0_3 l0_3.length c0_3] 59 (0, 0)) (by (with_reducible repeat (first | refine blk_drewN ?_ _ | refine blk_drew ?_ | refine blk_alloc ?_ _)); exact BK101.out) hb); have n4_ := Aside0.mk (below_step (by repeat (first | (with_reducible first | exact HB.out | apply below_alloc | apply pw_below_drewN | apply below_drew1 | refine below_set ?_ GE101.out) | exact HB.out)) hb); have n5_ := Aside0.mk (hbox); have n6_ := Aside0.mk ((by rw [hg]; exact (below_size (by repeat (first | (with_reducible first | exact HB.out | apply below_alloc | apply pw_below_drewN | apply below_drew1 | refine below_set ?_ GE101.out) | exact HB.out))) : w.heap.size ≤ gb122)); have n7_ := Aside0.mk ((by rw [hg]; exact (below_size (by repeat (first | (with_reducible first | exact HB.out | apply below_alloc | apply pw_below_drewN | apply below_drew1 | refine below_set ?_ GE101.out) | exact HB.out))) : w.heap.size ≤ gb122)); have n8_ := Aside0.mk ((by rw [hg]; exact Nat.ne_of_lt (blk_lt (g := gb101) (o := .cells #[.int .i64 a0_0, .int .i64 a0_1, .bool a0_2, .slice A0_3 l0_3.length c0_3] 59 (0, 0)) (by (with_reducible repeat (first | refine blk_drewN ?_ _ | refine blk_drew ?_ | refine blk_alloc ?_ _)); exact BK101.out)) : gb101 ≠ gb122)); have n9_ := Aside0.mk ((by rw [hg]; exact Nat.ne_of_gt (blk_lt (g := gb101) (o := .cells #[.int .i64 a0_0, .int .i64 a0_1, .bool a0_2, .slice A0_3 l0_3.length c0_3] 59 (0, 0)) (by (with_reducible repeat (first | refine blk_drewN ?_ _ | refine blk_drew ?_ | refine blk_alloc ?_ _)); exact BK101.out)) : gb122 ≠ gb101)); clear HO_7; clear HO_8; clear HO120; clear BK101; clear HB; have HO_7 := n0_; have HO_8 := n1_; have HO120 := n2_; have BK101 := n3_; have HB := n4_; have BK122 := n5_; have GW122 := n6_; have GE122 := n7_; have NB101_122 := n8_; have NB122_101 := n9_; clear n0_ n1_ n2_ n3_ n4_ n5_ n6_ n7_ n8_ n9_; clear hb hbox hg; have hnb59 := NB122_101.out; have hnc59 := NB101_122.out; have hcz60_0 : w58.cell? ⟨gb122, 0, none⟩ = some (.int .i64 0) := (blk_cell BK122.out 0).trans rfl; have hcz60_1 : w58.cell? ⟨gb122, 1, none⟩ = some (.int .i64 0) := (blk_cell BK122.out 1).trans rfl; have hcz60_2 : w58.cell? ⟨gb122, 2, none⟩ = some (.bool false) := (blk_cell BK122.out 2).trans rfl; have hcz60_3 : w58.cell? ⟨gb122, 3, none⟩ = some (.slice none 0 0) := (blk_cell BK122.out 3).trans rfl; have hfz60_0 := blk_frozen BK122.out 0; have hfz60_1 := blk_frozen BK122.out 1; have hfz60_2 := blk_frozen BK122.out 2; have hfz60_3 := blk_frozen BK122.out 3; obtain ⟨Ao61, co61, eo61⟩ := Kd.R_slice HO120.out; subst eo61) | ((with_reducible refine gate_callee (f := 44) rfl ?_); refine goesL_ (some 94) rfl rfl Try.func44 (by kernel_rfl) rfl #[.agg #[.int .i64 t115, .int .i64 t116, .bool t117, .slice Ao61 t118.length co61]] rfl (by (try simp only [List.map_toArray, List.map_cons, List.map_nil]); first | done | rfl | (simp only [List.length_drop, List.length_take]; rfl)) ?_; (with_reducible refine (psalterylaw19_As.calls t115 t116 t117 _ _ t118  _ ?side1 ?side2 A44.out).mono ?_); (case side1 => refine (Kd.R_reads' (e := 5) (base := w.heap.size) (ok := fun k_ => (True ∧ some k_ ≠ (.slice Ao26 x8_2.length co26 : Value).ownBlock)) (n := t118.length) (c := co61) ?_).2.2; exact (by (with_reducible repeat (first | apply Kd.R_alloc | apply Kd.R_drewN | apply Kd.R_drew)); exact (Kd.R_mono (Kd.R_far (p := ⟨gb122, 3, none⟩) (Kd.R_far (p := ⟨gb122, 2, none⟩) (Kd.R_far (p := ⟨gb122, 1, none⟩) (Kd.R_far (p := ⟨gb122, 0, none⟩) (Kd.R_types HO120.out BK122.out (by decide)) (fun _ hk => hk.2) (.int .i64 t115)) (fun _ hk => hk.2) (.int .i64 t116)) (fun _ hk => hk.2) (.bool t117)) (fun _ hk => hk.2) (.slice Ao61 t118.length co61)) (fun _ h_ => h_.1)))); (case side2 => exact (Kd.R_reads' HO120.out).2.1); rintro e w62 ⟨rfl, hb⟩; refine ⟨_, rfl, ?_⟩; have n0_ := Aside0.mk (Kd.R_below (by (with_reducible repeat (first | apply Kd.R_alloc | apply Kd.R_drewN | apply Kd.R_drew)); exact (Kd.R_mono (Kd.R_far (p := ⟨gb122, 3, none⟩) (Kd.R_far (p := ⟨gb122, 2, none⟩) (Kd.R_far (p := ⟨gb122, 1, none⟩) (Kd.R_far (p := ⟨gb122, 0, none⟩) (Kd.R_types HO_7.out BK122.out (by decide)) (fun _ hk => hk.2) (.int .i64 t115)) (fun _ hk => hk.2) (.int .i64 t116)) (fun _ hk => hk.2) (.bool t117)) (fun _ hk => hk.2) (.slice Ao61 t118.length co61)) (fun _ h_ => h_.1))) hb); have n1_ := Aside0.mk (Kd.R_below (by (with_reducible repeat (first | apply Kd.R_alloc | apply Kd.R_drewN | apply Kd.R_drew)); exact (Kd.R_mono (Kd.R_far (p := ⟨gb122, 3, none⟩) (Kd.R_far (p := ⟨gb122, 2, none⟩) (Kd.R_far (p := ⟨gb122, 1, none⟩) (Kd.R_far (p := ⟨gb122, 0, none⟩) (Kd.R_types HO_8.out BK122.out (by decide)) (fun _ hk => hk.2) (.int .i64 t115)) (fun _ hk => hk.2) (.int .i64 t116)) (fun _ hk => hk.2) (.bool t117)) (fun _ hk => hk.2) (.slice Ao61 t118.length co61)) (fun _ h_ => h_.1))) hb); have n2_ := Aside0.mk (Kd.R_below (by (with_reducible repeat (first | apply Kd.R_alloc | apply Kd.R_drewN | apply Kd.R_drew)); exact (Kd.R_mono (Kd.R_far (p := ⟨gb122, 3, none⟩) (Kd.R_far (p := ⟨gb122, 2, none⟩) (Kd.R_far (p := ⟨gb122, 1, none⟩) (Kd.R_far (p := ⟨gb122, 0, none⟩) (Kd.R_types HO120.out BK122.out (by decide)) (fun _ hk => hk.2) (.int .i64 t115)) (fun _ hk => hk.2) (.int .i64 t116)) (fun _ hk => hk.2) (.bool t117)) (fun _ hk => hk.2) (.slice Ao61 t118.length co61)) (fun _ h_ => h_.1))) hb); have n3_ := Aside0.mk (blk_below (g := gb101) (o := .cells #[.int .i64 a0_0, .int .i64 a0_1, .bool a0_2, .slice A0_3 l0_3.length c0_3] 59 (0, 0)) (by (with_reducible repeat (first | refine blk_drewN ?_ _ | refine blk_drew ?_ | refine blk_alloc ?_ _)); refine blk_far ?_ NB101_122.out _; (with_reducible repeat (first | refine blk_drewN ?_ _ | refine blk_drew ?_ | refine blk_alloc ?_ _)); refine blk_far ?_ NB101_122.out _; (with_reducible repeat (first | refine blk_drewN ?_ _ | refine blk_drew ?_ | refine blk_alloc ?_ _)); refine blk_far ?_ NB101_122.out _; (with_reducible repeat (first | refine blk_drewN ?_ _ | refine blk_drew ?_ | refine blk_alloc ?_ _)); refine blk_far ?_ NB101_122.out _; (with_reducible repeat (first | refine blk_drewN ?_ _ | refine blk_drew ?_ | refine blk_alloc ?_ _)); exact BK101.out) hb); have n4_ := Aside0.mk (blk_below (g := gb122) (o := .cells #[.int .i64 t115, .int .i64 t116, .bool t117, .slice Ao61 t118.length co61] 59 (0, 0)) (by (with_reducible repeat (first | refine blk_drewN ?_ _ | refine blk_drew ?_ | refine blk_alloc ?_ _)); refine blk_put (cs := #[.int .i64 t115, .int .i64 t116, .bool t117, .slice none 0 0]) ?_ 3 _ rfl; (with_reducible repeat (first | refine blk_drewN ?_ _ | refine blk_drew ?_ | refine blk_alloc ?_ _)); refine blk_put (cs := #[.int .i64 t115, .int .i64 t116, .bool false, .slice none 0 0]) ?_ 2 _ rfl; (with_reducible repeat (first | refine blk_drewN ?_ _ | refine blk_drew ?_ | refine blk_alloc ?_ _)); refine blk_put (cs := #[.int .i64 t115, .int .i64 0, .bool false, .slice none 0 0]) ?_ 1 _ rfl; (with_reducible repeat (first | refine blk_drewN ?_ _ | refine blk_drew ?_ | refine blk_alloc ?_ _)); refine blk_put (cs := #[.int .i64 0, .int .i64 0, .bool false, .slice none 0 0]) ?_ 0 _ rfl; (with_reducible repeat (first | refine blk_drewN ?_ _ | refine blk_drew ?_ | refine blk_alloc ?_ _)); exact BK122.out) hb); have n5_ := Aside0.mk (below_step (by repeat (first | (with_reducible first | exact HB.out | apply below_alloc | apply pw_below_drewN | apply below_drew1 | refine below_set ?_ GE101.out | refine below_set ?_ GE122.out) | exact HB.out)) hb); clear HO_7; clear HO_8; clear HO120; clear BK101; clear BK122; clear HB; have HO_7 := n0_; have HO_8 := n1_; have HO120 := n2_; have BK101 := n3_; have BK122 := n4_; have HB := n5_; clear n0_ n1_ n2_ n3_ n4_ n5_; (try clear hb); (try clear hb2); (try clear hk); (try clear hi)) | ((with_reducible refine gate_callee (f := 47) rfl ?_); refine goesL_ (some 96) rfl rfl Try.func47 (by kernel_rfl) rfl #[.agg #[.int .i64 t115, .int .i64 t116, .bool t117, .slice Ao61 t118.length co61], .agg #[.int .i64 0, .int .i64 0, .bool false, .slice none 0 0]] rfl (by (try simp only [List.map_toArray, List.map_cons, List.map_nil]); first | done | rfl | (simp only [List.length_drop, List.length_take]; rfl)) ?_; (refine (psalteryref19_Same.calls t115 t116 t117 _ _ t118 0 0 false _ _ ([] : List Int) true _ ?side1 ?side2 ?side3 ?side4 A45.out).mono ?_); (case side1 => repeat (first | exact (Kd.R_reads' HO120.out).2.2 | (with_reducible refine Kd.C_alloc ?_ _) | (with_reducible refine Kd.C_drewN ?_ _) | (with_reducible refine Kd.C_drew ?_))); (case side2 => exact (Kd.R_reads' HO120.out).2.1); (case side3 => exact Kd.C_nil _ _); (case side4 => exact Nat.le_refl _); rintro e w63 ⟨rfl, hb⟩; refine ⟨_, rfl, ?_⟩; have n0_ := Aside0.mk (Kd.R_below (by (with_reducible repeat (first | apply Kd.R_alloc | apply Kd.R_drewN | apply Kd.R_drew)); exact HO_7.out) hb); have n1_ := Aside0.mk (Kd.R_below (by (with_reducible repeat (first | apply Kd.R_alloc | apply Kd.R_drewN | apply Kd.R_drew)); exact HO_8.out) hb); have n2_ := Aside0.mk (Kd.R_below (by (with_reducible repeat (first | apply Kd.R_alloc | apply Kd.R_drewN | apply Kd.R_drew)); exact HO120.out) hb); have n3_ := Aside0.mk (blk_below (g := gb101) (o := .cells #[.int .i64 a0_0, .int .i64 a0_1, .bool a0_2, .slice A0_3 l0_3.length c0_3] 59 (0, 0)) (by (with_reducible repeat (first | refine blk_drewN ?_ _ | refine blk_drew ?_ | refine blk_alloc ?_ _)); exact BK101.out) hb); have n4_ := Aside0.mk (blk_below (g := gb122) (o := .cells #[.int .i64 t115, .int .i64 t116, .bool t117, .slice Ao61 t118.length co61] 59 (0, 0)) (by (with_reducible repeat (first | refine blk_drewN ?_ _ | refine blk_drew ?_ | refine blk_alloc ?_ _)); exact BK122.out) hb); have n5_ := Aside0.mk (below_step (by repeat (first | (with_reducible first | exact HB.out | apply below_alloc | apply pw_below_drewN | apply below_drew1 | refine below_set ?_ GE101.out | refine below_set ?_ GE122.out) | exact HB.out)) hb); clear HO_7; clear HO_8; clear HO120; clear BK101; clear BK122; clear HB; have HO_7 := n0_; have HO_8 := n1_; have HO120 := n2_; have BK101 := n3_; have BK122 := n4_; have HB := n5_; clear n0_ n1_ n2_ n3_ n4_ n5_; (try clear hb); (try clear hb2); (try clear hk); (try clear hi)))
                            go_ret
                            exact ⟨by first | rfl | (simp [errW_none, errW_some] <;> rfl) | (simp [*, errW_none, errW_some] <;> rfl), by repeat (first | (with_reducible first | exact HB.out | apply below_alloc | apply pw_below_drewN | apply below_drew1 | refine below_set ?_ GE101.out | refine below_set ?_ GE122.out) | exact HB.out)⟩
                        · replace c46 := Bool.eq_false_iff.mpr c46
                          subst c46
                          have H1 : (some false) = some r := by rw [if_neg (show ¬ (false = true) by decide)] at H; exact H
                          clear H
                          have H := H1
                          clear H1
                          obtain rfl := Option.some.inj H
                          go_wp2_with (first | ((with_reducible refine gate_callee (f := 46) rfl ?_); refine goesL_ (some 90) rfl rfl Try.func46 (by kernel_rfl) rfl #[.slice Ao17 t104.length co17, .slice Ao26 x8_2.length co26] rfl (by (try simp only [List.map_toArray, List.map_cons, List.map_nil]); first | done | rfl | (simp only [List.length_drop, List.length_take]; rfl)) ?_; (with_reducible refine (dgram_Read.calls _ _ t104 _ _ x8_2 t115 t116 t117 t118 t121 _ ?side1 ?side2 ?side3 ?side4 A43.out).mono ?_); (case side1 => repeat (first | exact (Kd.R_reads' HO_7.out).2.2 | (with_reducible refine Kd.C_alloc ?_ _) | (with_reducible refine Kd.C_drewN ?_ _) | (with_reducible refine Kd.C_drew ?_))); (case side2 => exact (Kd.R_reads' HO_7.out).2.1); (case side3 => repeat (first | exact (Kd.R_reads' HO_8.out).2.2 | (with_reducible refine Kd.C_alloc ?_ _) | (with_reducible refine Kd.C_drewN ?_ _) | (with_reducible refine Kd.C_drew ?_))); (case side4 => exact (Kd.R_reads' HO_8.out).2.1); rintro e w64 ⟨v119, rfl, ho0, hb⟩; refine ⟨_, rfl, ?_⟩; have n0_ := Aside0.mk (Kd.R_below (by (with_reducible repeat (first | apply Kd.R_alloc | apply Kd.R_drewN | apply Kd.R_drew)); exact HO_7.out) hb); have n1_ := Aside0.mk (Kd.R_elder' (by (with_reducible repeat (first | apply Kd.R_alloc | apply Kd.R_drewN | apply Kd.R_drew)); exact HO_8.out) (Kd.R_base ho0) hb); have n2_ := Aside0.mk (Kd.R_lower (Kd.R_new' ho0 (Kd.R_lt (by (with_reducible repeat (first | apply Kd.R_alloc | apply Kd.R_drewN | apply Kd.R_drew)); exact HO_8.out))) (below_size (by repeat (first | (with_reducible first | exact HB.out | apply below_alloc | apply pw_below_drewN | apply below_drew1 | refine below_set ?_ GE101.out) | exact HB.out)))); have n3_ := Aside0.mk (blk_below (g := gb101) (o := .cells #[.int .i64 a0_0, .int .i64 a0_1, .bool a0_2, .slice A0_3 l0_3.length c0_3] 59 (0, 0)) (by (with_reducible repeat (first | refine blk_drewN ?_ _ | refine blk_drew ?_ | refine blk_alloc ?_ _)); exact BK101.out) hb); have n4_ := Aside0.mk (below_step (by repeat (first | (with_reducible first | exact HB.out | apply below_alloc | apply pw_below_drewN | apply below_drew1 | refine below_set ?_ GE101.out) | exact HB.out)) hb); clear HO_7; clear HO_8; clear BK101; clear HB; have HO_7 := n0_; have HO_8 := n1_; have HO120 := n2_; have BK101 := n3_; have HB := n4_; clear n0_ n1_ n2_ n3_ n4_; (try clear hb); (try clear hb2); (try clear hk); (try clear hi); (try clear ho0)) | ((with_reducible refine gate_dst (N := 14) rfl ?_); (try (refine gate_guard (by rfl) ?_; dsimp only)); refine box_event ?hg (N := 14) ?hd (cs := #[.int .i64 0, .int .i64 0, .bool false, .slice none 0 0]) (t := 59) ?hr ?_; (case hd => rfl); (case hg => rfl); (case hr => first | (go_simp; done) | (go_simp; rfl)); intro gb122 hg w65 hbox hb; have n0_ := Aside0.mk (Kd.R_below (by (with_reducible repeat (first | apply Kd.R_alloc | apply Kd.R_drewN | apply Kd.R_drew)); exact HO_7.out) hb); have n1_ := Aside0.mk (Kd.R_below (by (with_reducible repeat (first | apply Kd.R_alloc | apply Kd.R_drewN | apply Kd.R_drew)); exact HO_8.out) hb); have n2_ := Aside0.mk (Kd.R_below (by (with_reducible repeat (first | apply Kd.R_alloc | apply Kd.R_drewN | apply Kd.R_drew)); exact HO120.out) hb); have n3_ := Aside0.mk (blk_below (g := gb101) (o := .cells #[.int .i64 a0_0, .int .i64 a0_1, .bool a0_2, .slice A0_3 l0_3.length c0_3] 59 (0, 0)) (by (with_reducible repeat (first | refine blk_drewN ?_ _ | refine blk_drew ?_ | refine blk_alloc ?_ _)); exact BK101.out) hb); have n4_ := Aside0.mk (below_step (by repeat (first | (with_reducible first | exact HB.out | apply below_alloc | apply pw_below_drewN | apply below_drew1 | refine below_set ?_ GE101.out) | exact HB.out)) hb); have n5_ := Aside0.mk (hbox); have n6_ := Aside0.mk ((by rw [hg]; exact (below_size (by repeat (first | (with_reducible first | exact HB.out | apply below_alloc | apply pw_below_drewN | apply below_drew1 | refine below_set ?_ GE101.out) | exact HB.out))) : w.heap.size ≤ gb122)); have n7_ := Aside0.mk ((by rw [hg]; exact (below_size (by repeat (first | (with_reducible first | exact HB.out | apply below_alloc | apply pw_below_drewN | apply below_drew1 | refine below_set ?_ GE101.out) | exact HB.out))) : w.heap.size ≤ gb122)); have n8_ := Aside0.mk ((by rw [hg]; exact Nat.ne_of_lt (blk_lt (g := gb101) (o := .cells #[.int .i64 a0_0, .int .i64 a0_1, .bool a0_2, .slice A0_3 l0_3.length c0_3] 59 (0, 0)) (by (with_reducible repeat (first | refine blk_drewN ?_ _ | refine blk_drew ?_ | refine blk_alloc ?_ _)); exact BK101.out)) : gb101 ≠ gb122)); have n9_ := Aside0.mk ((by rw [hg]; exact Nat.ne_of_gt (blk_lt (g := gb101) (o := .cells #[.int .i64 a0_0, .int .i64 a0_1, .bool a0_2, .slice A0_3 l0_3.length c0_3] 59 (0, 0)) (by (with_reducible repeat (first | refine blk_drewN ?_ _ | refine blk_drew ?_ | refine blk_alloc ?_ _)); exact BK101.out)) : gb122 ≠ gb101)); clear HO_7; clear HO_8; clear HO120; clear BK101; clear HB; have HO_7 := n0_; have HO_8 := n1_; have HO120 := n2_; have BK101 := n3_; have HB := n4_; have BK122 := n5_; have GW122 := n6_; have GE122 := n7_; have NB101_122 := n8_; have NB122_101 := n9_; clear n0_ n1_ n2_ n3_ n4_ n5_ n6_ n7_ n8_ n9_; clear hb hbox hg; have hnb66 := NB122_101.out; have hnc66 := NB101_122.out; have hcz67_0 : w65.cell? ⟨gb122, 0, none⟩ = some (.int .i64 0) := (blk_cell BK122.out 0).trans rfl; have hcz67_1 : w65.cell? ⟨gb122, 1, none⟩ = some (.int .i64 0) := (blk_cell BK122.out 1).trans rfl; have hcz67_2 : w65.cell? ⟨gb122, 2, none⟩ = some (.bool false) := (blk_cell BK122.out 2).trans rfl; have hcz67_3 : w65.cell? ⟨gb122, 3, none⟩ = some (.slice none 0 0) := (blk_cell BK122.out 3).trans rfl; have hfz67_0 := blk_frozen BK122.out 0; have hfz67_1 := blk_frozen BK122.out 1; have hfz67_2 := blk_frozen BK122.out 2; have hfz67_3 := blk_frozen BK122.out 3; obtain ⟨Ao68, co68, eo68⟩ := Kd.R_slice HO120.out; subst eo68) | ((with_reducible refine gate_callee (f := 44) rfl ?_); refine goesL_ (some 94) rfl rfl Try.func44 (by kernel_rfl) rfl #[.agg #[.int .i64 t115, .int .i64 t116, .bool t117, .slice Ao68 t118.length co68]] rfl (by (try simp only [List.map_toArray, List.map_cons, List.map_nil]); first | done | rfl | (simp only [List.length_drop, List.length_take]; rfl)) ?_; (with_reducible refine (psalterylaw19_As.calls t115 t116 t117 _ _ t118  _ ?side1 ?side2 A44.out).mono ?_); (case side1 => refine (Kd.R_reads' (e := 5) (base := w.heap.size) (ok := fun k_ => (True ∧ some k_ ≠ (.slice Ao26 x8_2.length co26 : Value).ownBlock)) (n := t118.length) (c := co68) ?_).2.2; exact (by (with_reducible repeat (first | apply Kd.R_alloc | apply Kd.R_drewN | apply Kd.R_drew)); exact (Kd.R_mono (Kd.R_far (p := ⟨gb122, 3, none⟩) (Kd.R_far (p := ⟨gb122, 2, none⟩) (Kd.R_far (p := ⟨gb122, 1, none⟩) (Kd.R_far (p := ⟨gb122, 0, none⟩) (Kd.R_types HO120.out BK122.out (by decide)) (fun _ hk => hk.2) (.int .i64 t115)) (fun _ hk => hk.2) (.int .i64 t116)) (fun _ hk => hk.2) (.bool t117)) (fun _ hk => hk.2) (.slice Ao68 t118.length co68)) (fun _ h_ => h_.1)))); (case side2 => exact (Kd.R_reads' HO120.out).2.1); rintro e w69 ⟨rfl, hb⟩; refine ⟨_, rfl, ?_⟩; have n0_ := Aside0.mk (Kd.R_below (by (with_reducible repeat (first | apply Kd.R_alloc | apply Kd.R_drewN | apply Kd.R_drew)); exact (Kd.R_mono (Kd.R_far (p := ⟨gb122, 3, none⟩) (Kd.R_far (p := ⟨gb122, 2, none⟩) (Kd.R_far (p := ⟨gb122, 1, none⟩) (Kd.R_far (p := ⟨gb122, 0, none⟩) (Kd.R_types HO_7.out BK122.out (by decide)) (fun _ hk => hk.2) (.int .i64 t115)) (fun _ hk => hk.2) (.int .i64 t116)) (fun _ hk => hk.2) (.bool t117)) (fun _ hk => hk.2) (.slice Ao68 t118.length co68)) (fun _ h_ => h_.1))) hb); have n1_ := Aside0.mk (Kd.R_below (by (with_reducible repeat (first | apply Kd.R_alloc | apply Kd.R_drewN | apply Kd.R_drew)); exact (Kd.R_mono (Kd.R_far (p := ⟨gb122, 3, none⟩) (Kd.R_far (p := ⟨gb122, 2, none⟩) (Kd.R_far (p := ⟨gb122, 1, none⟩) (Kd.R_far (p := ⟨gb122, 0, none⟩) (Kd.R_types HO_8.out BK122.out (by decide)) (fun _ hk => hk.2) (.int .i64 t115)) (fun _ hk => hk.2) (.int .i64 t116)) (fun _ hk => hk.2) (.bool t117)) (fun _ hk => hk.2) (.slice Ao68 t118.length co68)) (fun _ h_ => h_.1))) hb); have n2_ := Aside0.mk (Kd.R_below (by (with_reducible repeat (first | apply Kd.R_alloc | apply Kd.R_drewN | apply Kd.R_drew)); exact (Kd.R_mono (Kd.R_far (p := ⟨gb122, 3, none⟩) (Kd.R_far (p := ⟨gb122, 2, none⟩) (Kd.R_far (p := ⟨gb122, 1, none⟩) (Kd.R_far (p := ⟨gb122, 0, none⟩) (Kd.R_types HO120.out BK122.out (by decide)) (fun _ hk => hk.2) (.int .i64 t115)) (fun _ hk => hk.2) (.int .i64 t116)) (fun _ hk => hk.2) (.bool t117)) (fun _ hk => hk.2) (.slice Ao68 t118.length co68)) (fun _ h_ => h_.1))) hb); have n3_ := Aside0.mk (blk_below (g := gb101) (o := .cells #[.int .i64 a0_0, .int .i64 a0_1, .bool a0_2, .slice A0_3 l0_3.length c0_3] 59 (0, 0)) (by (with_reducible repeat (first | refine blk_drewN ?_ _ | refine blk_drew ?_ | refine blk_alloc ?_ _)); refine blk_far ?_ NB101_122.out _; (with_reducible repeat (first | refine blk_drewN ?_ _ | refine blk_drew ?_ | refine blk_alloc ?_ _)); refine blk_far ?_ NB101_122.out _; (with_reducible repeat (first | refine blk_drewN ?_ _ | refine blk_drew ?_ | refine blk_alloc ?_ _)); refine blk_far ?_ NB101_122.out _; (with_reducible repeat (first | refine blk_drewN ?_ _ | refine blk_drew ?_ | refine blk_alloc ?_ _)); refine blk_far ?_ NB101_122.out _; (with_reducible repeat (first | refine blk_drewN ?_ _ | refine blk_drew ?_ | refine blk_alloc ?_ _)); exact BK101.out) hb); have n4_ := Aside0.mk (blk_below (g := gb122) (o := .cells #[.int .i64 t115, .int .i64 t116, .bool t117, .slice Ao68 t118.length co68] 59 (0, 0)) (by (with_reducible repeat (first | refine blk_drewN ?_ _ | refine blk_drew ?_ | refine blk_alloc ?_ _)); refine blk_put (cs := #[.int .i64 t115, .int .i64 t116, .bool t117, .slice none 0 0]) ?_ 3 _ rfl; (with_reducible repeat (first | refine blk_drewN ?_ _ | refine blk_drew ?_ | refine blk_alloc ?_ _)); refine blk_put (cs := #[.int .i64 t115, .int .i64 t116, .bool false, .slice none 0 0]) ?_ 2 _ rfl; (with_reducible repeat (first | refine blk_drewN ?_ _ | refine blk_drew ?_ | refine blk_alloc ?_ _)); refine blk_put (cs := #[.int .i64 t115, .int .i64 0, .bool false, .slice none 0 0]) ?_ 1 _ rfl; (with_reducible repeat (first | refine blk_drewN ?_ _ | refine blk_drew ?_ | refine blk_alloc ?_ _)); refine blk_put (cs := #[.int .i64 0, .int .i64 0, .bool false, .slice none 0 0]) ?_ 0 _ rfl; (with_reducible repeat (first | refine blk_drewN ?_ _ | refine blk_drew ?_ | refine blk_alloc ?_ _)); exact BK122.out) hb); have n5_ := Aside0.mk (below_step (by repeat (first | (with_reducible first | exact HB.out | apply below_alloc | apply pw_below_drewN | apply below_drew1 | refine below_set ?_ GE101.out | refine below_set ?_ GE122.out) | exact HB.out)) hb); clear HO_7; clear HO_8; clear HO120; clear BK101; clear BK122; clear HB; have HO_7 := n0_; have HO_8 := n1_; have HO120 := n2_; have BK101 := n3_; have BK122 := n4_; have HB := n5_; clear n0_ n1_ n2_ n3_ n4_ n5_; (try clear hb); (try clear hb2); (try clear hk); (try clear hi)) | ((with_reducible refine gate_callee (f := 47) rfl ?_); refine goesL_ (some 96) rfl rfl Try.func47 (by kernel_rfl) rfl #[.agg #[.int .i64 t115, .int .i64 t116, .bool t117, .slice Ao68 t118.length co68], .agg #[.int .i64 0, .int .i64 0, .bool false, .slice none 0 0]] rfl (by (try simp only [List.map_toArray, List.map_cons, List.map_nil]); first | done | rfl | (simp only [List.length_drop, List.length_take]; rfl)) ?_; (refine (psalteryref19_Same.calls t115 t116 t117 _ _ t118 0 0 false _ _ ([] : List Int) false _ ?side1 ?side2 ?side3 ?side4 A45.out).mono ?_); (case side1 => repeat (first | exact (Kd.R_reads' HO120.out).2.2 | (with_reducible refine Kd.C_alloc ?_ _) | (with_reducible refine Kd.C_drewN ?_ _) | (with_reducible refine Kd.C_drew ?_))); (case side2 => exact (Kd.R_reads' HO120.out).2.1); (case side3 => exact Kd.C_nil _ _); (case side4 => exact Nat.le_refl _); rintro e w70 ⟨rfl, hb⟩; refine ⟨_, rfl, ?_⟩; have n0_ := Aside0.mk (Kd.R_below (by (with_reducible repeat (first | apply Kd.R_alloc | apply Kd.R_drewN | apply Kd.R_drew)); exact HO_7.out) hb); have n1_ := Aside0.mk (Kd.R_below (by (with_reducible repeat (first | apply Kd.R_alloc | apply Kd.R_drewN | apply Kd.R_drew)); exact HO_8.out) hb); have n2_ := Aside0.mk (Kd.R_below (by (with_reducible repeat (first | apply Kd.R_alloc | apply Kd.R_drewN | apply Kd.R_drew)); exact HO120.out) hb); have n3_ := Aside0.mk (blk_below (g := gb101) (o := .cells #[.int .i64 a0_0, .int .i64 a0_1, .bool a0_2, .slice A0_3 l0_3.length c0_3] 59 (0, 0)) (by (with_reducible repeat (first | refine blk_drewN ?_ _ | refine blk_drew ?_ | refine blk_alloc ?_ _)); exact BK101.out) hb); have n4_ := Aside0.mk (blk_below (g := gb122) (o := .cells #[.int .i64 t115, .int .i64 t116, .bool t117, .slice Ao68 t118.length co68] 59 (0, 0)) (by (with_reducible repeat (first | refine blk_drewN ?_ _ | refine blk_drew ?_ | refine blk_alloc ?_ _)); exact BK122.out) hb); have n5_ := Aside0.mk (below_step (by repeat (first | (with_reducible first | exact HB.out | apply below_alloc | apply pw_below_drewN | apply below_drew1 | refine below_set ?_ GE101.out | refine below_set ?_ GE122.out) | exact HB.out)) hb); clear HO_7; clear HO_8; clear HO120; clear BK101; clear BK122; clear HB; have HO_7 := n0_; have HO_8 := n1_; have HO120 := n2_; have BK101 := n3_; have BK122 := n4_; have HB := n5_; clear n0_ n1_ n2_ n3_ n4_ n5_; (try clear hb); (try clear hb2); (try clear hk); (try clear hi)))
                          go_ret
                          exact ⟨by first | rfl | (simp [errW_none, errW_some] <;> rfl) | (simp [*, errW_none, errW_some] <;> rfl), by repeat (first | (with_reducible first | exact HB.out | apply below_alloc | apply pw_below_drewN | apply below_drew1 | refine below_set ?_ GE101.out | refine below_set ?_ GE122.out) | exact HB.out)⟩
                      · replace c42 := Bool.eq_false_iff.mpr c42
                        subst c42
                        have H1 : ((psalterylaw19_knows.f).bind fun t114 => (some t114)) = some r := by rw [if_neg (show ¬ (false = true) by decide)] at H; exact H
                        clear H
                        have H := H1
                        clear H1
                        replace H := Option.bind_eq_some_iff.mp H
                        obtain ⟨t114, A710, H⟩ := H
                        replace H : (some t114) = some r := H
                        have A71 := Aside0.mk A710
                        clear A710
                        obtain rfl := Option.some.inj H
                        go_wp2_with (first | ((with_reducible refine gate_callee (f := 40) rfl ?_); refine goesL_ (some 86) rfl rfl Try.func40 (by kernel_rfl) rfl #[] rfl (by (try simp only [List.map_toArray, List.map_cons, List.map_nil]); first | done | rfl | (simp only [List.length_drop, List.length_take]; rfl)) ?_; (with_reducible refine (psalterylaw19_knows.calls  t114 _ A71.out).mono ?_); rintro e w72 ⟨rfl, hb⟩; refine ⟨_, rfl, ?_⟩; have n0_ := Aside0.mk (Kd.R_below (by (with_reducible repeat (first | apply Kd.R_alloc | apply Kd.R_drewN | apply Kd.R_drew)); exact HO_7.out) hb); have n1_ := Aside0.mk (Kd.R_below (by (with_reducible repeat (first | apply Kd.R_alloc | apply Kd.R_drewN | apply Kd.R_drew)); exact HO_8.out) hb); have n2_ := Aside0.mk (blk_below (g := gb101) (o := .cells #[.int .i64 a0_0, .int .i64 a0_1, .bool a0_2, .slice A0_3 l0_3.length c0_3] 59 (0, 0)) (by (with_reducible repeat (first | refine blk_drewN ?_ _ | refine blk_drew ?_ | refine blk_alloc ?_ _)); exact BK101.out) hb); have n3_ := Aside0.mk (below_step (by repeat (first | (with_reducible first | exact HB.out | apply below_alloc | apply pw_below_drewN | apply below_drew1 | refine below_set ?_ GE101.out) | exact HB.out)) hb); clear HO_7; clear HO_8; clear BK101; clear HB; have HO_7 := n0_; have HO_8 := n1_; have BK101 := n2_; have HB := n3_; clear n0_ n1_ n2_ n3_; (try clear hb); (try clear hb2); (try clear hk); (try clear hi)))
                        go_ret
                        exact ⟨by first | rfl | (simp [errW_none, errW_some] <;> rfl) | (simp [*, errW_none, errW_some] <;> rfl), by repeat (first | (with_reducible first | exact HB.out | apply below_alloc | apply pw_below_drewN | apply below_drew1 | refine below_set ?_ GE101.out) | exact HB.out)⟩

end Go.Proofs.Yteoclecadpapfaa.G
