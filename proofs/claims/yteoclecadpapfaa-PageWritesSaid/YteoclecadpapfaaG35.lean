/- What a call of psaltery/page.Read does, told by a plain Lean function of its arguments. Written by a program for this claim. -/
import Derived.Test.YteoclecadpapfaaG0
import Derived.Test.YteoclecadpapfaaG32
import Derived.Test.YteoclecadpapfaaG64
import Derived.Test.YteoclecadpapfaaM15
import Derived.Test.YteoclecadpapfaaM10
import Derived.Test.YteoclecadpapfaaM24
namespace Go.Proofs.Yteoclecadpapfaa.G
open Go.RowKit Go.Proofs.YteoclecadpapfaaW.PrintWords Go.Proofs.YteoclecadpapfaaW.PrintLast Go.Proofs.YteoclecadpapfaaW.PrintMore
attribute [local go_sem] max2_int min2_int max_two min_two max_three min_three max_four min_four
set_option linter.unusedVariables false
set_option linter.unusedSimpArgs false

/-! ### page_Read_raw: function 35 -/
mutual
def page_Read_raw.j0 : Nat → List Int → List Int → Int → Bool → Option (Int × Int × Bool × Bool × Bool × Bool × (List (List Int)) × Int × Int)
 | 0, _, _, _, _ => none
 | k + 1, x0, x1, x7, x36 => if x36 = true then (some (0, 0, false, false, false, false, ([] : List (List Int)), 0, 2)) else (if 21 < (x1.length : Int) then (if (x1.length : Int) < (wrap64 (22 + (wrap64 (rd x1 21)))) then (some (0, 0, false, false, false, false, ([] : List (List Int)), 0, 4)) else (if 22 ≤ (wrap64 (22 + (wrap64 (rd x1 21)))) then (if (wrap64 (22 + (wrap64 (rd x1 21)))) ≤ (x1.length : Int) then ((some ((x1.take ((wrap64 (22 + (wrap64 (rd x1 21)))) : Int).toNat).drop 22 : List Int)).bind fun y107 => (page_Read_raw.l0 k x0 x1 x7 (wrap64 (22 + (wrap64 (rd x1 21)))) y107 y107 (y107.length : Int) 0)) else (none)) else (none))) else (none))
def page_Read_raw.l0 : Nat → List Int → List Int → Int → Int → List Int → List Int → Int → Int → Option (Int × Int × Bool × Bool × Bool × Bool × (List (List Int)) × Int × Int)
 | 0, _, _, _, _, _, _, _, _ => none
 | k + 1, x0, x1, x7, x8, x9, x52, x53, x54 => if x54 < x53 then (if 0 ≤ x54 then (if x54 < (x52.length : Int) then (page_Read_raw.l0 k x0 x1 x7 (wrap64 (x8 + (wrap64 (rd x52 x54)))) x9 x52 x53 (wrap64 (x54 + 1))) else (none)) else (none)) else (if (x1.length : Int) < x8 then (some (0, 0, false, false, false, false, ([] : List (List Int)), 0, 4)) else (if 0 ≤ x8 then (if x8 ≤ (x1.length : Int) then ((page_sum.f x0 (x1.take (x8 : Int).toNat)).bind fun t113 => (if 17 ≤ 21 then (if 21 ≤ (x1.length : Int) then ((page_get.f ((x1.take 21).drop 17)).bind fun t115 => (if (IntKind.u64.wrap (t113)) = t115 then (if 13 ≤ 17 then (if 17 ≤ (x1.length : Int) then ((page_get.f ((x1.take 17).drop 13)).bind fun t117 => (if 4 < (x1.length : Int) then (if 0 ≤ (wrap64 (22 + (x9.length : Int))) then (if (wrap64 (22 + (x9.length : Int))) ≤ x8 then ((page_parts.f x9 ((x1.take (x8 : Int).toNat).drop ((wrap64 (22 + (x9.length : Int))) : Int).toNat)).bind fun bt123 => (some (wrap64 (t117), wrap64 (x7), decide ((Go.bits .and .u8 (rd x1 4) 2) > 0), decide ((Go.bits .and .u8 (rd x1 4) 4) > 0), decide ((Go.bits .and .u8 (rd x1 4) 1) > 0), bt123.2, bt123.1, x8, 0))) else (none)) else (none)) else (none))) else (none)) else (none)) else (some (0, 0, false, false, false, false, ([] : List (List Int)), 0, 6)))) else (none)) else (none))) else (none)) else (none)))
end
def page_Read_raw.f (k : Nat) (l0 : List Int) (l1 : List Int) : Option (Int × Int × Bool × Bool × Bool × Bool × (List (List Int)) × Int × Int) := if (l0.length : Int) = 256 then (if (l1.length : Int) < 22 then (some (0, 0, false, false, false, false, ([] : List (List Int)), 0, 4)) else (if 5 ≤ 13 then (if 13 ≤ (l1.length : Int) then ((page_get.f ((l1.take 13).drop 5)).bind fun t103 => ((page_begins.f l1).bind fun t104 => (if t104 = true then (if 4 < (l1.length : Int) then (if (rd l1 4) ≥ 8 then (page_Read_raw.j0 k l0 l1 t103 true) else (page_Read_raw.j0 k l0 l1 t103 (decide (t103 > 4611686018427387904)))) else (none)) else (page_Read_raw.j0 k l0 l1 t103 true)))) else (none)) else (none))) else (some (0, 0, false, false, false, false, ([] : List (List Int)), 0, 1))
def page_Read_raw.T19 : Bool × List (List Nat × List Nat) := (true, [([], []), ([], []), ([], []), ([1, 2], [1, 2]), ([0, 3], [0, 3]), ([4], [4]), ([], []), ([6], [6]), ([7, 4], [7]), ([5, 8], [5, 8])])
def page_Read_raw.B19 : List Nat := [0, 0, 0, 6, 15, 31, 0, 64, 223, 511]
theorem page_Read_raw.tab19 : rtab .any (opsOf Try.f35 19) = page_Read_raw.T19 := by kernel_rfl
theorem page_Read_raw.bits19 : waitsOk page_Read_raw.T19.2 page_Read_raw.B19 = true := by kernel_rfl
def page_Read_raw.T21 : Bool × List (List Nat × List Nat) := (true, [([], []), ([0], [0]), ([1], [1]), ([2], [2]), ([], []), ([4], [4]), ([], []), ([6], [6]), ([7], [7]), ([8], [8]), ([9], [9]), ([], []), ([11], [11]), ([12], [12]), ([13], [13]), ([14], [14]), ([], []), ([16], [16]), ([17], [17]), ([18], [18]), ([19], [19]), ([3, 5, 10, 15, 20], [3, 5, 10, 15, 20]), ([], []), ([22, 21, 2, 0, 1, 2, 3, 4, 5, 6, 7, 8, 9, 10, 11, 12, 13, 14, 15, 16, 17, 18, 19, 20, 21, 22], [21, 22])])
def page_Read_raw.B21 : List Nat := [0, 1, 3, 7, 0, 16, 0, 64, 192, 448, 960, 0, 2048, 6144, 14336, 30720, 0, 65536, 196608, 458752, 983040, 2097151, 0, 8388607]
theorem page_Read_raw.tab21 : rtab .any (opsOf Try.f35 21) = page_Read_raw.T21 := by kernel_rfl
theorem page_Read_raw.bits21 : waitsOk page_Read_raw.T21.2 page_Read_raw.B21 = true := by kernel_rfl
set_option maxHeartbeats 8000000 in
set_option maxRecDepth 100000 in
theorem page_Read_raw.calls (k : Nat) (A0 : Option Addr) (c0 : Nat) (l0 : List Int) (A1 : Option Addr) (c1 : Nat) (l1 : List Int) (r1 : Int) (r2 : Int) (r3 : Bool) (r4 : Bool) (r5 : Bool) (r6 : Bool) (r7 : List (List Int)) (r8 : Int) (r9 : Int) (w : World) (hr0 : Kd.C (Kd.int .u32) w A0 l0.length l0) (hc0 : l0.length ≤ c0) (hr1 : Kd.C (Kd.int .u8) w A1 l1.length l1) (hc1 : l1.length ≤ c1) (h : page_Read_raw.f k l0 l1 = some (r1, r2, r3, r4, r5, r6, r7, r8, r9)) :
  Calls Try.prog 35 #[.slice A0 l0.length c0, .slice A1 l1.length c1] w fun e w' => ∃ v6_ : Value, e = .returned (.tuple #[.agg #[.int .i64 r1, .int .i64 r2, .bool r3, .bool r4, .bool r5, .bool r6, v6_], .int .i64 r8, .int .i64 r9]) ∧ Kd.S (Kd.slice 5 (Kd.int .u8)) 28 w' w.heap.size (fun _ => True) v6_ r7 ∧ Below w.heap.size w w' := by
 have hu43 := Try.underlying43
 have HR0 := Zma hr0
 have HC0 := Zma hc0
 clear hr0 hc0
 have HR1 := Zma hr1
 have HC1 := Zma hc1
 clear hr1 hc1
 have HB := Zma (Below.refl w.heap.size w)
 have H : (if (l0.length : Int) = 256 then (if (l1.length : Int) < 22 then (some (0, 0, false, false, false, false, ([] : List (List Int)), 0, 4)) else (if 5 ≤ 13 then (if 13 ≤ (l1.length : Int) then ((page_get.f ((l1.take 13).drop 5)).bind fun t103 => ((page_begins.f l1).bind fun t104 => (if t104 = true then (if 4 < (l1.length : Int) then (if (rd l1 4) ≥ 8 then (page_Read_raw.j0 k l0 l1 t103 true) else (page_Read_raw.j0 k l0 l1 t103 (decide (t103 > 4611686018427387904)))) else (none)) else (page_Read_raw.j0 k l0 l1 t103 true)))) else (none)) else (none))) else (some (0, 0, false, false, false, false, ([] : List (List Int)), 0, 1))) = some (r1, r2, r3, r4, r5, r6, r7, r8, r9) := h
 clear h
 by_cases c3 : (l0.length : Int) = 256
 ·rw [if_pos c3] at H
  have c3b0 : ((l0.length : Int) == 256) = true := beq_iff_eq.mpr c3
  have c3b1 : ((l0.length : Int) != 256) = false := bne_eq_false_iff_eq.mpr c3
  clear c3
  by_cases c4 : (l1.length : Int) < 22
  ·rw [if_pos c4] at H
   have c4b0 : decide ((l1.length : Int) < 22) = true := Zn c4
   have c4b1 : decide (l1.length < 22) = true := Zn (by omega)
   clear c4
   simp only [Zib, Zhb] at H
   obtain ⟨rfl, rfl, rfl, rfl, rfl, rfl, rfl, rfl, rfl⟩ := H
   go_enter Try.func35, Try.ntmps35
   go_wp2_with (first | ((with_reducible refine gate_dst (N := 4) rfl ?_); refine box_event ?hg (N := 4) ?hd (cs := #[.int .i64 0, .int .i64 0, .bool false, .bool false, .bool false, .bool false, .slice none 0 0]) (t := 43) ?hr ?_; (case hd => rfl); (case hg => rfl); (case hr => first | (go_simp; done) | (go_simp; rfl)); intro gb101 hg w5 hbox hb; have n0_ := Zma (Zoa bq hb); have n1_ := Zma (hbox); have n2_ := Zma ((by rw [hg]; exact (Zfa bq) : w.heap.size ≤ gb101)); have n3_ := Zma ((by rw [hg]; exact (Zfa bq) : w.heap.size ≤ gb101)); clear HB; have HB := n0_; have BK101 := n1_; have GW101 := n2_; have GE101 := n3_; clear n0_ n1_ n2_ n3_ hb hbox hg; obtain ⟨hcz6_0, hcz6_1, hcz6_2, hcz6_3, hcz6_4, hcz6_5, hcz6_6, hfz6_0, hfz6_1, hfz6_2, hfz6_3, hfz6_4, hfz6_5, hfz6_6⟩ := blk7 BK101.out))
   refine bodyPost_ret (Zta rfl _ _ gb101 43 #[.int .i64 0, .int .i64 0, .bool false, .bool false, .bool false, .bool false, .slice none 0 0] (0, 0) _ rfl (by refine kq ?_; exact put7 (kq BK101.out)) Try.underlying43 rfl (by kernel_rfl)) rfl ?_
   exact ⟨_, by first | rfl | (simp [errW_none, errW_some] <;> rfl) | (simp [*, errW_none, errW_some] <;> rfl), by first | exact Kd.S_nil _ _ _ _ _ | exact Kd.N_nil _ _ _ _ _ | exact Kd.V_nil _ _ _ _ _ | exact Kd.Q_nil _ _ _ _ _ | exact Kd.R_nil _ _ _ _ _, bq⟩
  rw [if_neg c4] at H
  have c4b0 : decide ((l1.length : Int) < 22) = false := Zna c4
  have c4b1 : decide (l1.length < 22) = false := Zna (by omega)
  clear c4
  by_cases c7 : 5 ≤ 13
  rotate_left
  ·rw [if_neg c7] at H
   exact absurd H (by simp)
  rw [if_pos c7] at H
  have c7b0 := Zja c7
  have c7b1 : decide (5 ≤ 13) = true := Zn c7
  clear c7
  by_cases c8 : 13 ≤ (l1.length : Int)
  rotate_left
  ·rw [if_neg c8] at H
   exact absurd H (by simp)
  rw [if_pos c8] at H
  have c8b0 := Zja c8
  have c8b1 : decide (13 ≤ (l1.length : Int)) = true := Zn c8
  clear c8
  replace H := Option.bind_eq_some_iff.mp H
  obtain ⟨t103, A90, H⟩ := H
  replace H : ((page_begins.f l1).bind fun t104 => (if t104 = true then (if 4 < (l1.length : Int) then (if (rd l1 4) ≥ 8 then (page_Read_raw.j0 k l0 l1 t103 true) else (page_Read_raw.j0 k l0 l1 t103 (decide (t103 > 4611686018427387904)))) else (none)) else (page_Read_raw.j0 k l0 l1 t103 true))) = some (r1, r2, r3, r4, r5, r6, r7, r8, r9) := H
  have A9 := Zma A90
  clear A90
  have HC10 := Zma H
  clear H
  go_enter Try.func35, Try.ntmps35
  go_upto_region 6 with (first | ((with_reducible refine gate_dst (N := 4) rfl ?_); refine box_event ?hg (N := 4) ?hd (cs := #[.int .i64 0, .int .i64 0, .bool false, .bool false, .bool false, .bool false, .slice none 0 0]) (t := 43) ?hr ?_; (case hd => rfl); (case hg => rfl); (case hr => first | (go_simp; done) | (go_simp; rfl)); intro gb101 hg w11 hbox hb; have n0_ := Zma (Zoa bq hb); have n1_ := Zma (hbox); have n2_ := Zma ((by rw [hg]; exact (Zfa bq) : w.heap.size ≤ gb101)); have n3_ := Zma ((by rw [hg]; exact (Zfa bq) : w.heap.size ≤ gb101)); clear HB; have HB := n0_; have BK101 := n1_; have GW101 := n2_; have GE101 := n3_; clear n0_ n1_ n2_ n3_ hb hbox hg; obtain ⟨i012, hi012, _, hsz12, _⟩ := info_parts info5; obtain ⟨A12, hcut12, hA12, hC12⟩ := print_mid_of (P := Try.prog) (Value.int .u8) 0 28 5 .i64 .i64 Try.underlying28 hi012 hsz12 A1 c1 l1 5 13 (by omega) (by first | exact Zg (by first | (with_reducible assumption) | assumption) | omega) (Zg (by first | (with_reducible assumption) | assumption)) HC1.out; have HR102 := Zma (Kd.C_of_reads (h1 := fun _ => rfl) (hA12 _ (Kd.reads_of_C HR1.out))); have HC102 := Zma hC12; clear hA12 hC12 hi012 hsz12) | ((with_reducible refine gate_callee (f := 65) rfl ?_); refine goesL_ (some 23) rfl rfl Try.func65 (by kernel_rfl) rfl #[.slice A12 ((l1.take 13).drop 5).length (c1 - 5)] rfl (by (try simp only [Zdb, Zeb, Zfb]); first | done | (rw [show ((l1.take 13).drop 5).length = (13 - 5) from len_mid _ _ _ (Zg (by first | (with_reducible assumption) | assumption))] <;> rfl) | rfl | (simp only [Zha, Zga]; rfl)) ?_; (with_reducible refine (page_get.calls _ _ ((l1.take 13).drop 5) t103 _ ?side1 ?side2 A9.out).mono ?_); (case side1 => exact cq ((Kd.C_below HR102.out HB.out))); (case side2 => exact HC102.out); rintro e w' ⟨rfl, ⟨nd, rfl⟩⟩; refine ⟨_, rfl, ?_⟩))
  (try simp only [Act.put, Za, Zb, Zc])
  go_cut [36] (fun v36 wc => ∃ (kq : Nat) (x36_9 : Bool), v36 = .bool x36_9 ∧ Aside0 (page_Read_raw.j0 kq l0 l1 t103 x36_9 = some (r1, r2, r3, r4, r5, r6, r7, r8, r9)) ∧ Aside0 (kq ≤ k) ∧ Aside0 (wc.heap[gb101]? = some (.cells #[.int .i64 0, .int .i64 0, .bool false, .bool false, .bool false, .bool false, (.slice none 0 0)] 43 (0, 0))) ∧ Aside0 (Below w.heap.size w wc))
  case first =>
   have H := HC10.out
   clear HC10
   replace H := Option.bind_eq_some_iff.mp H
   obtain ⟨t104, A130, H⟩ := H
   replace H : (if t104 = true then (if 4 < (l1.length : Int) then (if (rd l1 4) ≥ 8 then (page_Read_raw.j0 k l0 l1 t103 true) else (page_Read_raw.j0 k l0 l1 t103 (decide (t103 > 4611686018427387904)))) else (none)) else (page_Read_raw.j0 k l0 l1 t103 true)) = some (r1, r2, r3, r4, r5, r6, r7, r8, r9) := H
   have A13 := Zma A130
   clear A130
   by_cases c14 : t104 = true
   ·subst c14
    have H1 : (if 4 < (l1.length : Int) then (if (rd l1 4) ≥ 8 then (page_Read_raw.j0 k l0 l1 t103 true) else (page_Read_raw.j0 k l0 l1 t103 (decide (t103 > 4611686018427387904)))) else (none)) = some (r1, r2, r3, r4, r5, r6, r7, r8, r9) := by rw [if_pos rfl] at H; exact H
    clear H
    have H := H1
    clear H1
    by_cases c15 : 4 < (l1.length : Int)
    rotate_left
    ·rw [if_neg c15] at H
     exact absurd H (by simp)
    rw [if_pos c15] at H
    have c15b0 : decide (4 < (l1.length : Int)) = true := Zn c15
    have c15b1 : decide (4 < l1.length) = true := Zn (by omega)
    clear c15
    (first | rw [c15b0] | (simp only [i64_w, i32_w]; rw [c15b0]) | skip)
    by_cases c16 : (rd l1 4) ≥ 8
    ·rw [if_pos c16] at H
     have c16b0 : decide (8 ≤ (rd l1 4)) = true := Zn c16
     clear c16
     have H' := Zma H
     clear H
     go_wp2_with (first | ((with_reducible refine gate_callee (f := 66) rfl ?_); refine goesL_ (some 25) rfl rfl Try.func66 (by kernel_rfl) rfl #[.slice A1 l1.length c1] rfl (by (try simp only [Zdb, Zeb, Zfb]); first | done | rfl | (simp only [Zha, Zga]; rfl)) ?_; (with_reducible refine (page_begins.calls _ _ l1 true _ ?side1 ?side2 A13.out).mono ?_); (case side1 => exact cq ((Kd.C_below HR1.out HB.out))); (case side2 => exact HC1.out); rintro e w17 ⟨rfl, hb⟩; refine ⟨_, rfl, ?_⟩; have n0_ := Zma (Zab (g := gb101) (o := .cells #[.int .i64 0, .int .i64 0, .bool false, .bool false, .bool false, .bool false, .slice none 0 0] 43 (0, 0)) (kq BK101.out) hb); have n1_ := Zma (Zoa bq hb); clear BK101 HB; have BK101 := n0_; have HB := n1_; clear n0_ n1_; (try clear hb); (try clear hb2); (try clear hk); (try clear hi); have p105 : 0 ≤ (4 : Int) := (by omega); have q105 : 4 < (l1.length : Int) := Zg (by first | (with_reducible assumption) | assumption); obtain ⟨ad105, e105, hx105_0⟩ := Znb HR1.out 4 p105 q105; cases e105; (try simp only [show (4 : Int).toNat = 4 from rfl, Nat.reduceMul, Nat.reduceEqDiff, Go.Addr.add, ↓reduceIte] at hx105_0); have qi105 : (4 < l1.length) = True := Zja (by omega); (try rw [show ((4 : Int)).toNat = 4 from rfl] at hx105_0); replace hx105_0 := (HB.out.cell (Zh w _ hx105_0)).trans hx105_0; replace p105 := Zja p105; replace q105 := Zja q105))
     go_meet
     case rel => exact ⟨_, (true), (by first | rfl | (simp; done) | (simp [*]; done)), H', ⟨by first | omega | exact Zra _⟩, ⟨kq BK101.out⟩, ⟨bq⟩⟩
    rw [if_neg c16] at H
    have c16b0 : decide (8 ≤ (rd l1 4)) = false := Zna c16
    clear c16
    have H' := Zma H
    clear H
    go_wp2_with (first | ((with_reducible refine gate_callee (f := 66) rfl ?_); refine goesL_ (some 25) rfl rfl Try.func66 (by kernel_rfl) rfl #[.slice A1 l1.length c1] rfl (by (try simp only [Zdb, Zeb, Zfb]); first | done | rfl | (simp only [Zha, Zga]; rfl)) ?_; (with_reducible refine (page_begins.calls _ _ l1 true _ ?side1 ?side2 A13.out).mono ?_); (case side1 => exact cq ((Kd.C_below HR1.out HB.out))); (case side2 => exact HC1.out); rintro e w18 ⟨rfl, hb⟩; refine ⟨_, rfl, ?_⟩; have n0_ := Zma (Zab (g := gb101) (o := .cells #[.int .i64 0, .int .i64 0, .bool false, .bool false, .bool false, .bool false, .slice none 0 0] 43 (0, 0)) (kq BK101.out) hb); have n1_ := Zma (Zoa bq hb); clear BK101 HB; have BK101 := n0_; have HB := n1_; clear n0_ n1_; (try clear hb); (try clear hb2); (try clear hk); (try clear hi); have p105 : 0 ≤ (4 : Int) := (by omega); have q105 : 4 < (l1.length : Int) := Zg (by first | (with_reducible assumption) | assumption); obtain ⟨ad105, e105, hx105_0⟩ := Znb HR1.out 4 p105 q105; cases e105; (try simp only [show (4 : Int).toNat = 4 from rfl, Nat.reduceMul, Nat.reduceEqDiff, Go.Addr.add, ↓reduceIte] at hx105_0); have qi105 : (4 < l1.length) = True := Zja (by omega); (try rw [show ((4 : Int)).toNat = 4 from rfl] at hx105_0); replace hx105_0 := (HB.out.cell (Zh w _ hx105_0)).trans hx105_0; replace p105 := Zja p105; replace q105 := Zja q105))
    go_meet
    case rel => exact ⟨_, (decide (t103 > 4611686018427387904)), (by first | rfl | (simp; done) | (simp [*]; done)), H', ⟨by first | omega | exact Zra _⟩, ⟨kq BK101.out⟩, ⟨bq⟩⟩
   replace c14 := Bool.eq_false_iff.mpr c14
   subst c14
   have H1 : (page_Read_raw.j0 k l0 l1 t103 true) = some (r1, r2, r3, r4, r5, r6, r7, r8, r9) := by rw [if_neg (show ¬ (false = true) by decide)] at H; exact H
   clear H
   have H := H1
   clear H1
   have H' := Zma H
   clear H
   go_wp2_with (first | ((with_reducible refine gate_callee (f := 66) rfl ?_); refine goesL_ (some 25) rfl rfl Try.func66 (by kernel_rfl) rfl #[.slice A1 l1.length c1] rfl (by (try simp only [Zdb, Zeb, Zfb]); first | done | rfl | (simp only [Zha, Zga]; rfl)) ?_; (with_reducible refine (page_begins.calls _ _ l1 false _ ?side1 ?side2 A13.out).mono ?_); (case side1 => exact cq ((Kd.C_below HR1.out HB.out))); (case side2 => exact HC1.out); rintro e w19 ⟨rfl, hb⟩; refine ⟨_, rfl, ?_⟩; have n0_ := Zma (Zab (g := gb101) (o := .cells #[.int .i64 0, .int .i64 0, .bool false, .bool false, .bool false, .bool false, .slice none 0 0] 43 (0, 0)) (kq BK101.out) hb); have n1_ := Zma (Zoa bq hb); clear BK101 HB; have BK101 := n0_; have HB := n1_; clear n0_ n1_; (try clear hb); (try clear hb2); (try clear hk); (try clear hi)))
   go_meet
   case rel => exact ⟨_, (true), (by first | rfl | (simp; done) | (simp [*]; done)), H', ⟨by first | omega | exact Zra _⟩, ⟨kq BK101.out⟩, ⟨bq⟩⟩
  case rest =>
   clear HC10
   try clear c1
   try clear p1
   try clear q1
   try clear hx1
   try clear qi1
   try clear p2
   try clear c3
   try clear c3b0
   try clear c3b1
   try clear c4
   try clear c4b0
   try clear c4b1
   try clear c6
   try clear c7
   try clear c7b0
   try clear c7b1
   try clear c8
   try clear c8b0
   try clear c8b1
   try clear p10
   try clear q10
   try clear hx10
   try clear qi10
   try clear c14
   try clear c15
   try clear c15b0
   try clear c15b1
   try clear c16
   try clear c16b0
   try clear hcz6_0
   try clear hcz6_1
   try clear hcz6_2
   try clear hcz6_3
   try clear hcz6_4
   try clear hcz6_5
   try clear hcz6_6
   try clear hfz6_0
   try clear hfz6_1
   try clear hfz6_2
   try clear hfz6_3
   try clear hfz6_4
   try clear hfz6_5
   try clear hfz6_6
   try clear hx105_0
   try clear p105
   try clear q105
   obtain ⟨kq, x36_9, rfl, HA, HJ9, BK101, HB⟩ := hcut
   cases kq with
   | zero => exact absurd HA.out (by simp [page_Read_raw.j0])
   | succ kj9 =>
    have H := HA.out
    clear HA
    simp only [page_Read_raw.j0] at H
    by_cases c20 : x36_9 = true
    ·subst c20
     have H1 : (some (0, 0, false, false, false, false, ([] : List (List Int)), 0, 2)) = some (r1, r2, r3, r4, r5, r6, r7, r8, r9) := by rw [if_pos rfl] at H; exact H
     clear H
     have H := H1
     clear H1
     simp only [Zib, Zhb] at H
     obtain ⟨rfl, rfl, rfl, rfl, rfl, rfl, rfl, rfl, rfl⟩ := H
     obtain ⟨hcz21_0, hcz21_1, hcz21_2, hcz21_3, hcz21_4, hcz21_5, hcz21_6, hfz21_0, hfz21_1, hfz21_2, hfz21_3, hfz21_4, hfz21_5, hfz21_6⟩ := blk7 BK101.out
     go_wp2
     refine bodyPost_ret (Zta rfl _ _ gb101 43 #[.int .i64 0, .int .i64 0, .bool false, .bool false, .bool false, .bool false, .slice none 0 0] (0, 0) _ rfl (by refine kq ?_; exact put7 (kq BK101.out)) Try.underlying43 rfl (by kernel_rfl)) rfl ?_
     exact ⟨_, by first | rfl | (simp [errW_none, errW_some] <;> rfl) | (simp [*, errW_none, errW_some] <;> rfl), by first | exact Kd.S_nil _ _ _ _ _ | exact Kd.N_nil _ _ _ _ _ | exact Kd.V_nil _ _ _ _ _ | exact Kd.Q_nil _ _ _ _ _ | exact Kd.R_nil _ _ _ _ _, bq⟩
    replace c20 := Bool.eq_false_iff.mpr c20
    subst c20
    have H1 : (if 21 < (l1.length : Int) then (if (l1.length : Int) < (wrap64 (22 + (wrap64 (rd l1 21)))) then (some (0, 0, false, false, false, false, ([] : List (List Int)), 0, 4)) else (if 22 ≤ (wrap64 (22 + (wrap64 (rd l1 21)))) then (if (wrap64 (22 + (wrap64 (rd l1 21)))) ≤ (l1.length : Int) then ((some ((l1.take ((wrap64 (22 + (wrap64 (rd l1 21)))) : Int).toNat).drop 22 : List Int)).bind fun y107 => (page_Read_raw.l0 kj9 l0 l1 t103 (wrap64 (22 + (wrap64 (rd l1 21)))) y107 y107 (y107.length : Int) 0)) else (none)) else (none))) else (none)) = some (r1, r2, r3, r4, r5, r6, r7, r8, r9) := by rw [if_neg (show ¬ (false = true) by decide)] at H; exact H
    clear H
    have H := H1
    clear H1
    by_cases c22 : 21 < (l1.length : Int)
    rotate_left
    ·rw [if_neg c22] at H
     exact absurd H (by simp)
    rw [if_pos c22] at H
    have c22b0 : decide (21 < (l1.length : Int)) = true := Zn c22
    have c22b1 : decide (21 < l1.length) = true := Zn (by omega)
    clear c22
    by_cases c23 : (l1.length : Int) < (wrap64 (22 + (wrap64 (rd l1 21))))
    ·rw [if_pos c23] at H
     have c23b0 : decide ((l1.length : Int) < (wrap64 (22 + (wrap64 (rd l1 21))))) = true := Zn c23
     clear c23
     simp only [Zib, Zhb] at H
     obtain ⟨rfl, rfl, rfl, rfl, rfl, rfl, rfl, rfl, rfl⟩ := H
     have p106 : 0 ≤ (21 : Int) := (by omega)
     have q106 : 21 < (l1.length : Int) := Zg (by first | (with_reducible assumption) | assumption)
     obtain ⟨ad106, e106, hx106_0⟩ := Znb HR1.out 21 p106 q106
     cases e106
     (try simp only [show (21 : Int).toNat = 21 from rfl, Nat.reduceMul, Nat.reduceEqDiff, Go.Addr.add, ↓reduceIte] at hx106_0)
     have qi106 : (21 < l1.length) = True := Zja (by omega)
     (try rw [show ((21 : Int)).toNat = 21 from rfl] at hx106_0)
     replace hx106_0 := (HB.out.cell (Zh w _ hx106_0)).trans hx106_0
     replace p106 := Zja p106
     replace q106 := Zja q106
     obtain ⟨hcz24_0, hcz24_1, hcz24_2, hcz24_3, hcz24_4, hcz24_5, hcz24_6, hfz24_0, hfz24_1, hfz24_2, hfz24_3, hfz24_4, hfz24_5, hfz24_6⟩ := blk7 BK101.out
     go_wp2
     refine bodyPost_ret (Zta rfl _ _ gb101 43 #[.int .i64 0, .int .i64 0, .bool false, .bool false, .bool false, .bool false, .slice none 0 0] (0, 0) _ rfl (by refine kq ?_; exact put7 (kq BK101.out)) Try.underlying43 rfl (by kernel_rfl)) rfl ?_
     exact ⟨_, by first | rfl | (simp [errW_none, errW_some] <;> rfl) | (simp [*, errW_none, errW_some] <;> rfl), by first | exact Kd.S_nil _ _ _ _ _ | exact Kd.N_nil _ _ _ _ _ | exact Kd.V_nil _ _ _ _ _ | exact Kd.Q_nil _ _ _ _ _ | exact Kd.R_nil _ _ _ _ _, bq⟩
    rw [if_neg c23] at H
    have c23b0 : decide ((l1.length : Int) < (wrap64 (22 + (wrap64 (rd l1 21))))) = false := Zna c23
    clear c23
    by_cases c25 : 22 ≤ (wrap64 (22 + (wrap64 (rd l1 21))))
    rotate_left
    ·rw [if_neg c25] at H
     exact absurd H (by simp)
    rw [if_pos c25] at H
    have c25b0 := Zja c25
    have c25b1 : decide (22 ≤ (wrap64 (22 + (wrap64 (rd l1 21))))) = true := Zn c25
    by_cases c26 : (wrap64 (22 + (wrap64 (rd l1 21)))) ≤ (l1.length : Int)
    rotate_left
    ·rw [if_neg c26] at H
     exact absurd H (by simp)
    rw [if_pos c26] at H
    have c26b0 := Zja c26
    have c26b1 : decide ((wrap64 (22 + (wrap64 (rd l1 21)))) ≤ (l1.length : Int)) = true := Zn c26
    obtain ⟨y107, hy107⟩ : ∃ y_ : List Int, y_ = ((l1.take ((wrap64 (22 + (wrap64 (rd l1 21)))) : Int).toNat).drop 22) := ⟨_, rfl⟩
    replace H : (page_Read_raw.l0 kj9 l0 l1 t103 (wrap64 (22 + (wrap64 (rd l1 21)))) y107 y107 (y107.length : Int) 0) = some (r1, r2, r3, r4, r5, r6, r7, r8, r9) := by first | (rw [hy107]; with_reducible exact H) | (have H2_ := (Zsa _ _).symm.trans H; rw [hy107]; with_reducible exact H2_) | (have H2_ := (Zsa _ _).symm.trans H; with_reducible exact H2_) | with_reducible exact H | (rw [hy107]; exact H) | exact H
    have Ny107 := Zma hy107
    clear hy107
    have H' := Zma H
    clear H
    have p106 : 0 ≤ (21 : Int) := (by omega)
    have q106 : 21 < (l1.length : Int) := Zg (by first | (with_reducible assumption) | assumption)
    obtain ⟨ad106, e106, hx106_0⟩ := Znb HR1.out 21 p106 q106
    cases e106
    (try simp only [show (21 : Int).toNat = 21 from rfl, Nat.reduceMul, Nat.reduceEqDiff, Go.Addr.add, ↓reduceIte] at hx106_0)
    have qi106 : (21 < l1.length) = True := Zja (by omega)
    (try rw [show ((21 : Int)).toNat = 21 from rfl] at hx106_0)
    replace hx106_0 := (HB.out.cell (Zh w _ hx106_0)).trans hx106_0
    replace p106 := Zja p106
    replace q106 := Zja q106
    have q27 : ((wrap64 (22 + (wrap64 (rd l1 21)))) : Int) ≤ ((l1.length : Int) : Int) := Zg (by first | (with_reducible assumption) | assumption)
    obtain ⟨i027, hi027, _, hsz27, _⟩ := info_parts info5
    have hroom27 : l1.length ≤ c1 := HC1.out
    have hC27 : Kd.C (Kd.int .u8) _ (some ad106) l1.length l1 := HR1.out
    have ql27 : (22 : Int) ≤ ((wrap64 (22 + (wrap64 (rd l1 21)))) : Int) := Zg (by first | (with_reducible assumption) | assumption)
    have hcut27 := cut_mid3 (P := Try.prog) 28 5 .i64 .i64 .i64 Try.underlying28 hi027 1 hsz27 (some ad106) l1.length c1 22 (wrap64 (22 + (wrap64 (rd l1 21)))) (by omega) ql27 q27 hroom27
    have hr27 := C_mid3 (lo := (22 : Int).toNat) (hi := ((wrap64 (22 + (wrap64 (rd l1 21)))) : Int).toNat) hC27 (by omega) (by omega)
    obtain ⟨A27, hA27⟩ : ∃ A1_, A1_ = (if ((wrap64 (22 + (wrap64 (rd l1 21)))) : Int).toNat = (22 : Int).toNat then (some ad106) else ((some ad106) : Option Addr).map (·.add ((22 : Int).toNat * 1))) := ⟨_, rfl⟩
    have hy27 : y107.length = ((wrap64 (22 + (wrap64 (rd l1 21)))) : Int).toNat - (22 : Int).toNat := (by rw [Ny107.out, Zha, Zga] <;> omega)
    rw [show ((l1).take ((wrap64 (22 + (wrap64 (rd l1 21)))) : Int).toNat).drop (22 : Int).toNat = y107 from Ny107.out.symm] at hr27
    replace hr27 : Kd.C (Kd.int .u8) _ A27 y107.length y107 := (by rw [hA27]; exact hr27)
    rw [← hy27, ← hA27] at hcut27
    have HR110 := Zma hr27
    have HC110 := Zma (Zra y107.length)
    clear hr27 hC27 hroom27 hi027 hsz27
    have KY27 := Zma hy27
    have KA27 := Zma hA27
    clear hy27 hA27
    replace q27 := Zja q27
    go_wp2
    go_loopg [8, 54] kj9 (fun kq v8 v54 w' => ∃ (x8_2 : Int) (x54_2 : Int), v8 = .int .i64 x8_2 ∧ v54 = .int .i64 x54_2 ∧ Aside0 (page_Read_raw.l0 kq l0 l1 t103 x8_2 y107 y107 (y107.length : Int) x54_2 = some (r1, r2, r3, r4, r5, r6, r7, r8, r9)) ∧ Aside0 (kq ≤ kj9) ∧ Aside0 (w'.heap[gb101]? = some (.cells #[.int .i64 0, .int .i64 0, .bool false, .bool false, .bool false, .bool false, (.slice none 0 0)] 43 (0, 0))) ∧ Aside0 (Below w.heap.size w w'))
    case atStart => exact ⟨(wrap64 (22 + (wrap64 (rd l1 21)))), (0), (by first | rfl | (simp; done) | (simp [*]; done)), (by first | rfl | (simp; done) | (simp [*]; done)), H', ⟨Zra _⟩, ⟨kq BK101.out⟩, ⟨bq⟩⟩
    case round =>
     clear H'
     try clear c1
     try clear p1
     try clear q1
     try clear hx1
     try clear qi1
     try clear c2
     try clear p2
     try clear q2
     try clear c3
     try clear c3b0
     try clear c3b1
     try clear c4
     try clear c4b0
     try clear c4b1
     try clear c6
     try clear p6
     try clear c7
     try clear c7b0
     try clear c7b1
     try clear c8
     try clear c8b0
     try clear c8b1
     try clear p10
     try clear q10
     try clear hx10
     try clear qi10
     try clear c14
     try clear c15
     try clear c15b0
     try clear c15b1
     try clear c16
     try clear c16b0
     try clear c20
     try clear c22
     try clear c22b0
     try clear c22b1
     try clear c23
     try clear c23b0
     try clear c25
     try clear c25b0
     try clear c25b1
     try clear c26
     try clear c26b0
     try clear c26b1
     try clear q27
     try clear hcz21_0
     try clear hcz21_1
     try clear hcz21_2
     try clear hcz21_3
     try clear hcz21_4
     try clear hcz21_5
     try clear hcz21_6
     try clear hcz24_0
     try clear hcz24_1
     try clear hcz24_2
     try clear hcz24_3
     try clear hcz24_4
     try clear hcz24_5
     try clear hcz24_6
     try clear hcz6_0
     try clear hcz6_1
     try clear hcz6_2
     try clear hcz6_3
     try clear hcz6_4
     try clear hcz6_5
     try clear hcz6_6
     try clear hfz21_0
     try clear hfz21_1
     try clear hfz21_2
     try clear hfz21_3
     try clear hfz21_4
     try clear hfz21_5
     try clear hfz21_6
     try clear hfz24_0
     try clear hfz24_1
     try clear hfz24_2
     try clear hfz24_3
     try clear hfz24_4
     try clear hfz24_5
     try clear hfz24_6
     try clear hfz6_0
     try clear hfz6_1
     try clear hfz6_2
     try clear hfz6_3
     try clear hfz6_4
     try clear hfz6_5
     try clear hfz6_6
     try clear hx105_0
     try clear hx106_0
     try clear p1
     try clear p10
     try clear p105
     try clear p106
     try clear p2
     try clear q1
     try clear q10
     try clear q105
     try clear q106
     try clear q27
     obtain ⟨x8_2, x54_2, rfl, rfl, HA, HK2, BK101, HB⟩ := hrel
     cases gk with
     | zero => exact absurd HA.out (by simp [page_Read_raw.l0])
     | succ k2 =>
      have H := HA.out
      clear HA
      simp only [page_Read_raw.l0] at H
      by_cases c28 : x54_2 < (y107.length : Int)
      ·rw [if_pos c28] at H
       have c28b0 : decide (x54_2 < (y107.length : Int)) = true := Zn c28
       clear c28
       by_cases c29 : 0 ≤ x54_2
       rotate_left
       ·rw [if_neg c29] at H
        exact absurd H (by simp)
       rw [if_pos c29] at H
       have c29b0 : decide (0 ≤ x54_2) = true := Zn c29
       clear c29
       by_cases c30 : x54_2 < (y107.length : Int)
       rotate_left
       ·rw [if_neg c30] at H
        exact absurd H (by simp)
       rw [if_pos c30] at H
       have c30b0 : decide (x54_2 < (y107.length : Int)) = true := Zn c30
       clear c30
       have H' := Zma H
       clear H
       have p111 : 0 ≤ (x54_2 : Int) := Zg (by first | (with_reducible assumption) | assumption)
       have q111 : x54_2 < (y107.length : Int) := Zg (by first | (with_reducible assumption) | assumption)
       obtain ⟨ad111, e111, hx111_0⟩ := Znb HR110.out x54_2 p111 q111
       cases e111
       replace hx111_0 := (HB.out.cell (Zh w _ hx111_0)).trans hx111_0
       replace p111 := Zja p111
       replace q111 := Zja q111
       go_wp2
       go_roundg k2
       case measure => have := HJ9.out; have := HK2.out; omega
       case rel => exact ⟨(wrap64 (x8_2 + (wrap64 (rd y107 x54_2)))), (wrap64 (x54_2 + 1)), (by first | rfl | (simp; done) | (simp [*]; done)), (by first | rfl | (simp; done) | (simp [*]; done)), H', ⟨by have := HJ9.out; have := HK2.out; omega⟩, ⟨kq BK101.out⟩, ⟨bq⟩⟩
      rw [if_neg c28] at H
      have c28b0 : decide (x54_2 < (y107.length : Int)) = false := Zna c28
      clear c28
      by_cases c31 : (l1.length : Int) < x8_2
      ·rw [if_pos c31] at H
       have c31b0 : decide ((l1.length : Int) < x8_2) = true := Zn c31
       clear c31
       simp only [Zib, Zhb] at H
       obtain ⟨rfl, rfl, rfl, rfl, rfl, rfl, rfl, rfl, rfl⟩ := H
       obtain ⟨hcz32_0, hcz32_1, hcz32_2, hcz32_3, hcz32_4, hcz32_5, hcz32_6, hfz32_0, hfz32_1, hfz32_2, hfz32_3, hfz32_4, hfz32_5, hfz32_6⟩ := blk7 BK101.out
       go_wp2
       refine bodyPost_ret (Zta rfl _ _ gb101 43 #[.int .i64 0, .int .i64 0, .bool false, .bool false, .bool false, .bool false, .slice none 0 0] (0, 0) _ rfl (by refine kq ?_; exact put7 (kq BK101.out)) Try.underlying43 rfl (by kernel_rfl)) rfl ?_
       exact ⟨_, by first | rfl | (simp [errW_none, errW_some] <;> rfl) | (simp [*, errW_none, errW_some] <;> rfl), by first | exact Kd.S_nil _ _ _ _ _ | exact Kd.N_nil _ _ _ _ _ | exact Kd.V_nil _ _ _ _ _ | exact Kd.Q_nil _ _ _ _ _ | exact Kd.R_nil _ _ _ _ _, bq⟩
      rw [if_neg c31] at H
      have c31b0 : decide ((l1.length : Int) < x8_2) = false := Zna c31
      clear c31
      by_cases c33 : 0 ≤ x8_2
      rotate_left
      ·rw [if_neg c33] at H
       exact absurd H (by simp)
      rw [if_pos c33] at H
      have c33b0 := Zja c33
      have c33b1 : decide (0 ≤ x8_2) = true := Zn c33
      clear c33
      by_cases c34 : x8_2 ≤ (l1.length : Int)
      rotate_left
      ·rw [if_neg c34] at H
       exact absurd H (by simp)
      rw [if_pos c34] at H
      have c34b0 := Zja c34
      have c34b1 : decide (x8_2 ≤ (l1.length : Int)) = true := Zn c34
      clear c34
      replace H := Option.bind_eq_some_iff.mp H
      obtain ⟨t113, A350, H⟩ := H
      replace H : (if 17 ≤ 21 then (if 21 ≤ (l1.length : Int) then ((page_get.f ((l1.take 21).drop 17)).bind fun t115 => (if (IntKind.u64.wrap (t113)) = t115 then (if 13 ≤ 17 then (if 17 ≤ (l1.length : Int) then ((page_get.f ((l1.take 17).drop 13)).bind fun t117 => (if 4 < (l1.length : Int) then (if 0 ≤ (wrap64 (22 + (y107.length : Int))) then (if (wrap64 (22 + (y107.length : Int))) ≤ x8_2 then ((page_parts.f y107 ((l1.take (x8_2 : Int).toNat).drop ((wrap64 (22 + (y107.length : Int))) : Int).toNat)).bind fun bt123 => (some (wrap64 (t117), wrap64 (t103), decide ((Go.bits .and .u8 (rd l1 4) 2) > 0), decide ((Go.bits .and .u8 (rd l1 4) 4) > 0), decide ((Go.bits .and .u8 (rd l1 4) 1) > 0), bt123.2, bt123.1, x8_2, 0))) else (none)) else (none)) else (none))) else (none)) else (none)) else (some (0, 0, false, false, false, false, ([] : List (List Int)), 0, 6)))) else (none)) else (none)) = some (r1, r2, r3, r4, r5, r6, r7, r8, r9) := H
      have A35 := Zma A350
      clear A350
      by_cases c36 : 17 ≤ 21
      rotate_left
      ·rw [if_neg c36] at H
       exact absurd H (by simp)
      rw [if_pos c36] at H
      have c36b0 := Zja c36
      have c36b1 : decide (17 ≤ 21) = true := Zn c36
      clear c36
      by_cases c37 : 21 ≤ (l1.length : Int)
      rotate_left
      ·rw [if_neg c37] at H
       exact absurd H (by simp)
      rw [if_pos c37] at H
      have c37b0 := Zja c37
      have c37b1 : decide (21 ≤ (l1.length : Int)) = true := Zn c37
      clear c37
      replace H := Option.bind_eq_some_iff.mp H
      obtain ⟨t115, A380, H⟩ := H
      replace H : (if (IntKind.u64.wrap (t113)) = t115 then (if 13 ≤ 17 then (if 17 ≤ (l1.length : Int) then ((page_get.f ((l1.take 17).drop 13)).bind fun t117 => (if 4 < (l1.length : Int) then (if 0 ≤ (wrap64 (22 + (y107.length : Int))) then (if (wrap64 (22 + (y107.length : Int))) ≤ x8_2 then ((page_parts.f y107 ((l1.take (x8_2 : Int).toNat).drop ((wrap64 (22 + (y107.length : Int))) : Int).toNat)).bind fun bt123 => (some (wrap64 (t117), wrap64 (t103), decide ((Go.bits .and .u8 (rd l1 4) 2) > 0), decide ((Go.bits .and .u8 (rd l1 4) 4) > 0), decide ((Go.bits .and .u8 (rd l1 4) 1) > 0), bt123.2, bt123.1, x8_2, 0))) else (none)) else (none)) else (none))) else (none)) else (none)) else (some (0, 0, false, false, false, false, ([] : List (List Int)), 0, 6))) = some (r1, r2, r3, r4, r5, r6, r7, r8, r9) := H
      have A38 := Zma A380
      clear A380
      by_cases c39 : (IntKind.u64.wrap (t113)) = t115
      ·rw [if_pos c39] at H
       have c39b0 : ((IntKind.u64.wrap (t113)) == t115) = true := beq_iff_eq.mpr c39
       have c39b1 : ((IntKind.u64.wrap (t113)) != t115) = false := bne_eq_false_iff_eq.mpr c39
       clear c39
       by_cases c40 : 13 ≤ 17
       rotate_left
       ·rw [if_neg c40] at H
        exact absurd H (by simp)
       rw [if_pos c40] at H
       have c40b0 := Zja c40
       have c40b1 : decide (13 ≤ 17) = true := Zn c40
       clear c40
       by_cases c41 : 17 ≤ (l1.length : Int)
       rotate_left
       ·rw [if_neg c41] at H
        exact absurd H (by simp)
       rw [if_pos c41] at H
       have c41b0 := Zja c41
       have c41b1 : decide (17 ≤ (l1.length : Int)) = true := Zn c41
       clear c41
       replace H := Option.bind_eq_some_iff.mp H
       obtain ⟨t117, A420, H⟩ := H
       replace H : (if 4 < (l1.length : Int) then (if 0 ≤ (wrap64 (22 + (y107.length : Int))) then (if (wrap64 (22 + (y107.length : Int))) ≤ x8_2 then ((page_parts.f y107 ((l1.take (x8_2 : Int).toNat).drop ((wrap64 (22 + (y107.length : Int))) : Int).toNat)).bind fun bt123 => (some (wrap64 (t117), wrap64 (t103), decide ((Go.bits .and .u8 (rd l1 4) 2) > 0), decide ((Go.bits .and .u8 (rd l1 4) 4) > 0), decide ((Go.bits .and .u8 (rd l1 4) 1) > 0), bt123.2, bt123.1, x8_2, 0))) else (none)) else (none)) else (none)) = some (r1, r2, r3, r4, r5, r6, r7, r8, r9) := H
       have A42 := Zma A420
       clear A420
       by_cases c43 : 4 < (l1.length : Int)
       rotate_left
       ·rw [if_neg c43] at H
        exact absurd H (by simp)
       rw [if_pos c43] at H
       have c43b0 : decide (4 < (l1.length : Int)) = true := Zn c43
       have c43b1 : decide (4 < l1.length) = true := Zn (by omega)
       clear c43
       obtain ⟨ji44, hji44⟩ : ∃ j_ : Int, (wrap64 (22 + (y107.length : Int))) = j_ := ⟨_, rfl⟩
       replace H : (if 0 ≤ (ji44) then (if (ji44) ≤ x8_2 then ((page_parts.f y107 ((l1.take (x8_2 : Int).toNat).drop ((ji44) : Int).toNat)).bind fun bt123 => (some (wrap64 (t117), wrap64 (t103), decide ((Go.bits .and .u8 (rd l1 4) 2) > 0), decide ((Go.bits .and .u8 (rd l1 4) 4) > 0), decide ((Go.bits .and .u8 (rd l1 4) 1) > 0), bt123.2, bt123.1, x8_2, 0))) else (none)) else (none)) = some (r1, r2, r3, r4, r5, r6, r7, r8, r9) := by first | (rw [hji44] at H; exact H) | (simp only [hji44] at H ⊢; exact H)
       (try rw [hji44] at A35)
       (try rw [hji44] at A38)
       (try rw [hji44] at A42)
       have hji44w : (IntKind.i64.wrap (22 + (y107.length : Int))) = ji44 := (i64_w _).trans hji44
       by_cases c45 : 0 ≤ (ji44)
       rotate_left
       ·rw [if_neg c45] at H
        exact absurd H (by simp)
       rw [if_pos c45] at H
       have c45b0 := Zja c45
       have c45b1 : decide (0 ≤ (ji44)) = true := Zn c45
       clear c45
       by_cases c46 : (ji44) ≤ x8_2
       rotate_left
       ·rw [if_neg c46] at H
        exact absurd H (by simp)
       rw [if_pos c46] at H
       have c46b0 := Zja c46
       have c46b1 : decide ((ji44) ≤ x8_2) = true := Zn c46
       clear c46
       have c47b0 := Zja (Zg (by first | (with_reducible assumption) | assumption) : x8_2 ≤ (l1.length : Int))
       replace H := Option.bind_eq_some_iff.mp H
       obtain ⟨⟨t123, t126⟩, A480, H⟩ := H
       replace H : (some (wrap64 (t117), wrap64 (t103), decide ((Go.bits .and .u8 (rd l1 4) 2) > 0), decide ((Go.bits .and .u8 (rd l1 4) 4) > 0), decide ((Go.bits .and .u8 (rd l1 4) 1) > 0), t126, t123, x8_2, 0)) = some (r1, r2, r3, r4, r5, r6, r7, r8, r9) := H
       have A48 := Zma A480
       clear A480
       simp only [Zib, Zhb] at H
       obtain ⟨rfl, rfl, rfl, rfl, rfl, rfl, rfl, rfl, rfl⟩ := H
       try go_wp2
       have n0_ := Zma (Zl BK101.out)
       have n1_ := Zma (Zla HB.out)
       clear BK101 HB; have BK101 := n0_; have HB := n1_; clear n0_ n1_
       obtain ⟨i050, hi050, _, hsz50, _⟩ := info_parts info5
       obtain ⟨hcut50, hA50, hC50⟩ := print_take_of (P := Try.prog) (Value.int .u8) 0 28 5 .i64 Try.underlying28 hi050 hsz50 (some ad106) c1 l1 x8_2 (Zg (by first | (with_reducible assumption) | assumption)) (Zg (by first | (with_reducible assumption) | assumption)) HC1.out
       have HR112 := Zma (Kd.C_of_reads (h1 := fun _ => rfl) (hA50 _ (Kd.reads_of_C HR1.out)))
       have HC112 := Zma hC50
       clear hA50 hC50 hi050 hsz50
       obtain ⟨i051, hi051, _, hsz51, _⟩ := info_parts info5
       obtain ⟨A51, hcut51, hA51, hC51⟩ := print_mid_of (P := Try.prog) (Value.int .u8) 0 28 5 .i64 .i64 Try.underlying28 hi051 hsz51 (some ad106) c1 l1 17 21 (by omega) (by first | exact Zg (by first | (with_reducible assumption) | assumption) | omega) (Zg (by first | (with_reducible assumption) | assumption)) HC1.out
       have HR114 := Zma (Kd.C_of_reads (h1 := fun _ => rfl) (hA51 _ (Kd.reads_of_C HR1.out)))
       have HC114 := Zma hC51
       clear hA51 hC51 hi051 hsz51
       refine start_ (n := 10) (S := fun w' => True) (ds := []) #[ZF,ZF,ZF,ZF,ZF,ZF,ZF,ZF,ZF,ZF] (by kernel_rfl) rfl rfl trivial (fun hHeld => ?_); refine with_tabW page_Read_raw.tab19 page_Read_raw.bits19 (fun HT_ HW_ => ?_)
       generalize wr.drew = w49 at BK101 HB HR112 HR114 hHeld ⊢
       refine p1 HT_ 0 68 ?_
       refine p1 HT_ 1 69 ?_
       refine p1 HT_ 2 70 ?_
       refine p1 HT_ 3 71 ?_
       refine p1 HT_ 6 74 ?_
       refine p1 HT_ 7 75 ?_
       refine o1 HT_ 4 (some 72) (fun K hK => ?_)
       refine goes_ Try.func64 (by kernel_rfl) rfl #[.slice A0 l0.length c0, .slice (some ad106) (l1.take (x8_2 : Int).toNat).length c1] (by rfl) rfl rfl (by (try simp only [Zdb, Zeb, Zfb]); first | done | (rw [show (l1.take (x8_2 : Int).toNat).length = x8_2.toNat from (by rw [Zga]; have h_ : (x8_2 : Int) ≤ (l1.length : Int) := Zg (by first | (with_reducible assumption) | assumption); omega)] <;> rfl) | rfl | (simp only [Zha, Zga]; rfl)) ?_
       with_reducible refine (page_sum.calls _ _ l0 _ _ (l1.take (x8_2 : Int).toNat) t113 _ ?side1 ?side2 ?side3 ?side4 A35.out).mono ?_
       (case side1 => exact cq ((Kd.C_below HR0.out HB.out)))
       (case side2 => exact HC0.out)
       (case side3 => exact cq ((Kd.C_below HR112.out HB.out)))
       (case side4 => exact HC112.out)
       rintro e w52 ⟨rfl, hb⟩
       refine ⟨_, rfl, ?_⟩
       have n0_ := Zma (Zab (g := gb101) (o := .cells #[.int .i64 0, .int .i64 0, .bool false, .bool false, .bool false, .bool false, .slice none 0 0] 43 (0, 0)) (kq BK101.out) hb)
       have n1_ := Zma (Zoa bq hb)
       clear BK101 HB; have BK101 := n0_; have HB := n1_; clear n0_ n1_
       (try clear hb)
       refine hK.out _ _ trivial (fun hHeld => ?_)
       clear hK K
       refine n1 72 ?_
       refine p1 HT_ 5 73 ?_
       refine o1 HT_ 8 (some 76) (fun K hK => ?_)
       refine goes_ Try.func65 (by kernel_rfl) rfl #[.slice A51 ((l1.take 21).drop 17).length (c1 - 17)] (by rfl) rfl rfl (by (try simp only [Zdb, Zeb, Zfb]); first | done | (rw [show ((l1.take 21).drop 17).length = (21 - 17) from len_mid _ _ _ (Zg (by first | (with_reducible assumption) | assumption))] <;> rfl) | rfl | (simp only [Zha, Zga]; rfl)) ?_
       with_reducible refine (page_get.calls _ _ ((l1.take 21).drop 17) t115 _ ?side1 ?side2 A38.out).mono ?_
       (case side1 => exact cq ((Kd.C_below HR114.out HB.out)))
       (case side2 => exact HC114.out)
       rintro e w' ⟨rfl, ⟨nd, rfl⟩⟩
       refine ⟨_, rfl, ?_⟩
       refine hK.out _ _ trivial (fun hHeld => ?_)
       clear hK K
       refine n1 76 ?_
       refine p1 HT_ 9 77 ?_
       refine done_ (done_of HT_.out (by kernel_rfl)) ?_
       try go_wp2
       (repeat rw [Zcb]); (try (rw [drewN_self w52]; generalize hq_ : World.drewN w52 _ = w52; have n0_ : Aside0 (w52.heap[gb101]? = some (.cells #[.int .i64 0, .int .i64 0, .bool false, .bool false, .bool false, .bool false, .slice none 0 0] 43 (0, 0))) := ⟨by rw [← hq_]; exact (kq BK101.out)⟩; have n1_ : Aside0 (Below w.heap.size w w52) := ⟨by rw [← hq_]; exact bq⟩; clear BK101 HB hq_; have BK101 := n0_; have HB := n1_; clear n0_ n1_))
       have n0_ := Zma (Zl BK101.out)
       have n1_ := Zma (Zla HB.out)
       clear BK101 HB; have BK101 := n0_; have HB := n1_; clear n0_ n1_
       obtain ⟨i054, hi054, _, hsz54, _⟩ := info_parts info5
       obtain ⟨A54, hcut54, hA54, hC54⟩ := print_mid_of (P := Try.prog) (Value.int .u8) 0 28 5 .i64 .i64 Try.underlying28 hi054 hsz54 (some ad106) c1 l1 13 17 (by omega) (by first | exact Zg (by first | (with_reducible assumption) | assumption) | omega) (Zg (by first | (with_reducible assumption) | assumption)) HC1.out
       have HR116 := Zma (Kd.C_of_reads (h1 := fun _ => rfl) (hA54 _ (Kd.reads_of_C HR1.out)))
       have HC116 := Zma hC54
       clear hA54 hC54 hi054 hsz54
       have p118 : 0 ≤ (4 : Int) := (by omega)
       have q118 : 4 < (l1.length : Int) := Zg (by first | (with_reducible assumption) | assumption)
       obtain ⟨ad118, e118, hx118_0⟩ := Znb HR1.out 4 p118 q118
       have hw118_0 := hx118_0
       (try rw [show ((4 : Int)).toNat = 4 from rfl] at hw118_0)
       (try rw [show 4 * 1 = 4 from rfl] at hw118_0)
       (try simp only [Nat.reduceMul, Nat.reduceEqDiff, Go.Addr.add, ↓reduceIte] at hw118_0)
       obtain rfl : ad106 = ad118 := (by injection e118)
       (try simp only [show (4 : Int).toNat = 4 from rfl, Nat.reduceMul, Nat.reduceEqDiff, Go.Addr.add, ↓reduceIte] at hx118_0)
       have qi118 : (4 < l1.length) = True := Zja (by omega)
       (try rw [show ((4 : Int)).toNat = 4 from rfl] at hx118_0)
       replace hx118_0 := (HB.out.cell (Zh w _ hx118_0)).trans hx118_0
       replace p118 := Zja p118
       replace q118 := Zja q118
       have p119 : 0 ≤ (4 : Int) := (by omega)
       have q119 : 4 < (l1.length : Int) := Zg (by first | (with_reducible assumption) | assumption)
       obtain ⟨ad119, e119, hx119_0⟩ := Znb HR1.out 4 p119 q119
       have hw119_0 := hx119_0
       (try rw [show ((4 : Int)).toNat = 4 from rfl] at hw119_0)
       (try rw [show 4 * 1 = 4 from rfl] at hw119_0)
       (try simp only [Nat.reduceMul, Nat.reduceEqDiff, Go.Addr.add, ↓reduceIte] at hw119_0)
       obtain rfl : ad106 = ad119 := (by injection e119)
       (try simp only [show (4 : Int).toNat = 4 from rfl, Nat.reduceMul, Nat.reduceEqDiff, Go.Addr.add, ↓reduceIte] at hx119_0)
       have qi119 : (4 < l1.length) = True := Zja (by omega)
       (try rw [show ((4 : Int)).toNat = 4 from rfl] at hx119_0)
       replace hx119_0 := (HB.out.cell (Zh w _ hx119_0)).trans hx119_0
       replace p119 := Zja p119
       replace q119 := Zja q119
       have p120 : 0 ≤ (4 : Int) := (by omega)
       have q120 : 4 < (l1.length : Int) := Zg (by first | (with_reducible assumption) | assumption)
       obtain ⟨ad120, e120, hx120_0⟩ := Znb HR1.out 4 p120 q120
       have hw120_0 := hx120_0
       (try rw [show ((4 : Int)).toNat = 4 from rfl] at hw120_0)
       (try rw [show 4 * 1 = 4 from rfl] at hw120_0)
       (try simp only [Nat.reduceMul, Nat.reduceEqDiff, Go.Addr.add, ↓reduceIte] at hw120_0)
       obtain rfl : ad106 = ad120 := (by injection e120)
       (try simp only [show (4 : Int).toNat = 4 from rfl, Nat.reduceMul, Nat.reduceEqDiff, Go.Addr.add, ↓reduceIte] at hx120_0)
       have qi120 : (4 < l1.length) = True := Zja (by omega)
       (try rw [show ((4 : Int)).toNat = 4 from rfl] at hx120_0)
       replace hx120_0 := (HB.out.cell (Zh w _ hx120_0)).trans hx120_0
       replace p120 := Zja p120
       replace q120 := Zja q120
       refine start_ (n := 24) (S := fun w' => w'.cell? ⟨ad106.block, ad106.off + 4, none⟩ = some (.int .u8 (rd l1 4)) ∧ w'.cell? ⟨ad106.block, ad106.off + 4, none⟩ = some (.int .u8 (rd l1 4)) ∧ w'.cell? ⟨ad106.block, ad106.off + 4, none⟩ = some (.int .u8 (rd l1 4))) (ds := []) #[ZF,ZF,ZF,ZF,ZF,ZF,ZF,ZF,ZF,ZF,ZF,ZF,ZF,ZF,ZF,ZF,ZF,ZF,ZF,ZF,ZF,ZF,ZF,ZF] (by kernel_rfl) rfl rfl ⟨((HB.out.cell (Zh w _ hw118_0)).trans hw118_0), ((HB.out.cell (Zh w _ hw119_0)).trans hw119_0), ((HB.out.cell (Zh w _ hw120_0)).trans hw120_0)⟩ (fun hHeld => ?_); refine with_tabW page_Read_raw.tab21 page_Read_raw.bits21 (fun HT_ HW_ => ?_)
       generalize w52.drew = w53 at BK101 HB HR116 hx118_0 hx119_0 hx120_0 hHeld ⊢
       refine p1 HT_ 0 79 ?_
       refine p1 HT_ 1 80 ?_
       refine p1 HT_ 4 83 ?_
       refine p1 HT_ 5 84 ?_
       refine p1 HT_ 6 85 ?_
       refine p1 HT_ 7 86 ?_
       refine p1 HT_ 11 90 ?_
       refine p1 HT_ 12 91 ?_
       refine p1 HT_ 16 95 ?_
       refine p1 HT_ 17 96 ?_
       refine p2 HT_ HW_ hHeld 8 87 ?_
       refine p1 HT_ 9 88 ?_
       refine p1 HT_ 10 89 ?_
       refine p2 HT_ HW_ hHeld 13 92 ?_
       refine p1 HT_ 14 93 ?_
       refine p1 HT_ 15 94 ?_
       refine p2 HT_ HW_ hHeld 18 97 ?_
       refine p1 HT_ 19 98 ?_
       refine p1 HT_ 20 99 ?_
       refine join_ (σ := Nat) 1 #[ZT,ZT,ZT,ZT,ZT,ZT,ZT,ZT,ZT,ZT,ZT,ZT,ZT,ZT,ZT,ZT,ZT,ZT,ZT,ZT,ZT,ZT,ZT,ZF] (fun s_ => [(81, .int .u64 t117), (12, .pointer (some ⟨s_, 0, none⟩)), (82, .int .i64 (wrap64 (t117))), (100, .agg #[.int .i64 (wrap64 (t117)), .int .i64 (wrap64 (t103)), .bool (decide ((Go.bits .and .u8 (rd l1 4) 2) > 0)), .bool (decide ((Go.bits .and .u8 (rd l1 4) 4) > 0)), .bool (decide ((Go.bits .and .u8 (rd l1 4) 1) > 0)), .bool false, .slice none 0 0])]) (fun s_ w' => (w'.cell? ⟨ad106.block, ad106.off + 4, none⟩ = some (.int .u8 (rd l1 4)) ∧ w'.cell? ⟨ad106.block, ad106.off + 4, none⟩ = some (.int .u8 (rd l1 4)) ∧ w'.cell? ⟨ad106.block, ad106.off + 4, none⟩ = some (.int .u8 (rd l1 4))) ∧ (w'.heap[gb101]? = some (.cells #[.int .i64 0, .int .i64 0, .bool false, .bool false, .bool false, .bool false, .slice none 0 0] 43 (0, 0))) ∧ (w'.heap[s_]? = some (.cells #[.int .i64 0, .int .i64 0, .bool false, .bool false, .bool false, .bool false, .slice none 0 0] 43 (0, 0))) ∧ (w.heap.size ≤ s_) ∧ (w.heap.size ≤ s_) ∧ (gb101 ≠ s_) ∧ (s_ ≠ gb101) ∧ (Below w.heap.size w w')) ?_ ?_
       rotate_left
       ·intro hCont
        refine two_ (i := 2) (j := 22) (Ni := some 81) (Nj := some 12) #[ZT,ZT,ZT,ZF,ZT,ZT,ZT,ZT,ZT,ZT,ZT,ZT,ZT,ZT,ZT,ZT,ZT,ZT,ZT,ZT,ZT,ZF,ZF,ZF] #[ZT,ZT,ZF,ZF,ZT,ZT,ZT,ZT,ZT,ZT,ZT,ZT,ZT,ZT,ZT,ZT,ZT,ZT,ZT,ZT,ZT,ZF,ZT,ZF] rfl rfl rfl rfl (two_of HT_.out (by kernel_rfl)) (by decide) (by decide) (fun K hK => ?_) (fun K hK => ?_)
        ·skip
         refine goes_ Try.func65 (by kernel_rfl) rfl #[.slice A54 ((l1.take 17).drop 13).length (c1 - 13)] (by rfl) rfl rfl (by (try simp only [Zdb, Zeb, Zfb]); first | done | (rw [show ((l1.take 17).drop 13).length = (17 - 13) from len_mid _ _ _ (Zg (by first | (with_reducible assumption) | assumption))] <;> rfl) | rfl | (simp only [Zha, Zga]; rfl)) ?_
         with_reducible refine (page_get.calls _ _ ((l1.take 17).drop 13) t117 _ ?side1 ?side2 A42.out).mono ?_
         (case side1 => exact cq ((Kd.C_below HR116.out HB.out)))
         (case side2 => exact HC116.out)
         rintro e w' ⟨rfl, ⟨nd, rfl⟩⟩
         refine ⟨_, rfl, ?_⟩
         refine hK.out _ _ ⟨((HB.out.cell (Zh w _ hw118_0)).trans hw118_0), ((HB.out.cell (Zh w _ hw119_0)).trans hw119_0), ((HB.out.cell (Zh w _ hw120_0)).trans hw120_0)⟩ (fun hHeld => ?_)
         clear hK K
         refine n1 81 ?_
         refine p1 HT_ 3 82 ?_
         refine p1 HT_ 21 100 ?_
         refine o1 HT_ 22 (some 12) (fun K hK => ?_)
         refine box_step ?hg (N := 12) ?hd (cs := #[.int .i64 0, .int .i64 0, .bool false, .bool false, .bool false, .bool false, .slice none 0 0]) (t := 43) ?hr ?_; (case hd => rfl); (case hg => rfl); (case hr => first | (go_simp; done) | (go_simp; rfl))
         intro gb121 hg w55 hbox hb
         have n0_ := Zma (Zab (g := gb101) (o := .cells #[.int .i64 0, .int .i64 0, .bool false, .bool false, .bool false, .bool false, .slice none 0 0] 43 (0, 0)) (kq BK101.out) hb)
         have n1_ := Zma (Zoa bq hb)
         have n2_ := Zma (hbox)
         have n3_ := Zma ((by rw [hg]; exact (Zfa bq) : w.heap.size ≤ gb121))
         have n4_ := Zma ((by rw [hg]; exact (Zfa bq) : w.heap.size ≤ gb121))
         have n5_ := Zma ((by rw [hg]; exact Zka (blk_lt (g := gb101) (o := .cells #[.int .i64 0, .int .i64 0, .bool false, .bool false, .bool false, .bool false, .slice none 0 0] 43 (0, 0)) (kq BK101.out)) : gb101 ≠ gb121))
         have n6_ := Zma ((by rw [hg]; exact Nat.ne_of_gt (blk_lt (g := gb101) (o := .cells #[.int .i64 0, .int .i64 0, .bool false, .bool false, .bool false, .bool false, .slice none 0 0] 43 (0, 0)) (kq BK101.out)) : gb121 ≠ gb101))
         clear BK101 HB; have BK101 := n0_; have HB := n1_; have BK121 := n2_; have GW121 := n3_; have GE121 := n4_; have NB101_121 := n5_; have NB121_101 := n6_; clear n0_ n1_ n2_ n3_ n4_ n5_ n6_ hb hbox hg
         refine hK.out _ _ ⟨((HB.out.cell (Zh w _ hw118_0)).trans hw118_0), ((HB.out.cell (Zh w _ hw119_0)).trans hw119_0), ((HB.out.cell (Zh w _ hw120_0)).trans hw120_0)⟩ (fun hHeld => ?_)
         clear hK K
         refine n1 12 ?_
         exact norm_ (by simp only [putAll, Act.put, Za, Zb, Zc]) (hCont (gb121) _ ⟨hHeld, (kq BK101.out), (kq BK121.out), GW121.out, GE121.out, NB101_121.out, NB121_101.out, bq⟩)
        refine box_step ?hg (N := 12) ?hd (cs := #[.int .i64 0, .int .i64 0, .bool false, .bool false, .bool false, .bool false, .slice none 0 0]) (t := 43) ?hr ?_; (case hd => rfl); (case hg => rfl); (case hr => first | (go_simp; done) | (go_simp; rfl))
        intro gb121 hg w55 hbox hb
        have n0_ := Zma (Zab (g := gb101) (o := .cells #[.int .i64 0, .int .i64 0, .bool false, .bool false, .bool false, .bool false, .slice none 0 0] 43 (0, 0)) (kq BK101.out) hb)
        have n1_ := Zma (Zoa bq hb)
        have n2_ := Zma (hbox)
        have n3_ := Zma ((by rw [hg]; exact (Zfa bq) : w.heap.size ≤ gb121))
        have n4_ := Zma ((by rw [hg]; exact (Zfa bq) : w.heap.size ≤ gb121))
        have n5_ := Zma ((by rw [hg]; exact Zka (blk_lt (g := gb101) (o := .cells #[.int .i64 0, .int .i64 0, .bool false, .bool false, .bool false, .bool false, .slice none 0 0] 43 (0, 0)) (kq BK101.out)) : gb101 ≠ gb121))
        have n6_ := Zma ((by rw [hg]; exact Nat.ne_of_gt (blk_lt (g := gb101) (o := .cells #[.int .i64 0, .int .i64 0, .bool false, .bool false, .bool false, .bool false, .slice none 0 0] 43 (0, 0)) (kq BK101.out)) : gb121 ≠ gb101))
        clear BK101 HB; have BK101 := n0_; have HB := n1_; have BK121 := n2_; have GW121 := n3_; have GE121 := n4_; have NB101_121 := n5_; have NB121_101 := n6_; clear n0_ n1_ n2_ n3_ n4_ n5_ n6_ hb hbox hg
        refine hK.out _ _ ⟨((HB.out.cell (Zh w _ hw118_0)).trans hw118_0), ((HB.out.cell (Zh w _ hw119_0)).trans hw119_0), ((HB.out.cell (Zh w _ hw120_0)).trans hw120_0)⟩ (fun hHeld => ?_)
        clear hK K
        refine n1 12 ?_
        refine o1 HT_ 2 (some 81) (fun K hK => ?_)
        refine goes_ Try.func65 (by kernel_rfl) rfl #[.slice A54 ((l1.take 17).drop 13).length (c1 - 13)] (by rfl) rfl rfl (by (try simp only [Zdb, Zeb, Zfb]); first | done | (rw [show ((l1.take 17).drop 13).length = (17 - 13) from len_mid _ _ _ (Zg (by first | (with_reducible assumption) | assumption))] <;> rfl) | rfl | (simp only [Zha, Zga]; rfl)) ?_
        with_reducible refine (page_get.calls _ _ ((l1.take 17).drop 13) t117 _ ?side1 ?side2 A42.out).mono ?_
        (case side1 => exact cq ((Kd.C_below HR116.out HB.out)))
        (case side2 => exact HC116.out)
        rintro e w' ⟨rfl, ⟨nd, rfl⟩⟩
        refine ⟨_, rfl, ?_⟩
        refine hK.out _ _ ⟨((HB.out.cell (Zh w _ hw118_0)).trans hw118_0), ((HB.out.cell (Zh w _ hw119_0)).trans hw119_0), ((HB.out.cell (Zh w _ hw120_0)).trans hw120_0)⟩ (fun hHeld => ?_)
        clear hK K
        refine n1 81 ?_
        refine p1 HT_ 3 82 ?_
        refine p1 HT_ 21 100 ?_
        exact norm_ (by simp only [putAll, Act.put, Za, Zb, Zc]) (hCont (gb121) _ ⟨hHeld, (kq BK101.out), (kq BK121.out), GW121.out, GE121.out, NB101_121.out, NB121_101.out, bq⟩)
       rintro gb121 w56 ⟨hS_, h0_, h1_, h2_, h3_, h4_, h5_, h6_⟩
       have n0_ : Aside0 (w56.heap[gb101]? = some (.cells #[.int .i64 0, .int .i64 0, .bool false, .bool false, .bool false, .bool false, .slice none 0 0] 43 (0, 0))) := ⟨h0_⟩
       have n1_ : Aside0 (w56.heap[gb121]? = some (.cells #[.int .i64 0, .int .i64 0, .bool false, .bool false, .bool false, .bool false, .slice none 0 0] 43 (0, 0))) := ⟨h1_⟩
       have n2_ : Aside0 (w.heap.size ≤ gb121) := ⟨h2_⟩
       have n3_ : Aside0 (w.heap.size ≤ gb121) := ⟨h3_⟩
       have n4_ : Aside0 (gb101 ≠ gb121) := ⟨h4_⟩
       have n5_ : Aside0 (gb121 ≠ gb101) := ⟨h5_⟩
       have n6_ : Aside0 (Below w.heap.size w w56) := ⟨h6_⟩
       clear BK101 HB h0_ h1_ h2_ h3_ h4_ h5_ h6_; have BK101 := n0_; have BK121 := n1_; have GW121 := n2_; have GE121 := n3_; have NB101_121 := n4_; have NB121_101 := n5_; have HB := n6_; clear n0_ n1_ n2_ n3_ n4_ n5_ n6_
       have hHeld : w56.cell? ⟨ad106.block, ad106.off + 4, none⟩ = some (.int .u8 (rd l1 4)) ∧ w56.cell? ⟨ad106.block, ad106.off + 4, none⟩ = some (.int .u8 (rd l1 4)) ∧ w56.cell? ⟨ad106.block, ad106.off + 4, none⟩ = some (.int .u8 (rd l1 4)) := hS_
       refine n2 ?_
       refine o1 HT_ 23 none (fun K hK => ?_)
       have hs57 : w56.cell? ⟨gb121, 0, none⟩ = some (.int .i64 0) := (Zd BK121.out 0).trans rfl
       have hfs57 := Zf BK121.out 0
       have hns57_0 := NB101_121.out
       have hms57_0 := NB121_101.out
       have hs58 : w56.cell? ⟨gb121, 1, none⟩ = some (.int .i64 0) := (Zd BK121.out 1).trans rfl
       have hfs58 := Zf BK121.out 1
       have hns58_0 := NB101_121.out
       have hms58_0 := NB121_101.out
       have hs59 : w56.cell? ⟨gb121, 2, none⟩ = some (.bool false) := (Zd BK121.out 2).trans rfl
       have hfs59 := Zf BK121.out 2
       have hns59_0 := NB101_121.out
       have hms59_0 := NB121_101.out
       have hs60 : w56.cell? ⟨gb121, 3, none⟩ = some (.bool false) := (Zd BK121.out 3).trans rfl
       have hfs60 := Zf BK121.out 3
       have hns60_0 := NB101_121.out
       have hms60_0 := NB121_101.out
       have hs61 : w56.cell? ⟨gb121, 4, none⟩ = some (.bool false) := (Zd BK121.out 4).trans rfl
       have hfs61 := Zf BK121.out 4
       have hns61_0 := NB101_121.out
       have hms61_0 := NB121_101.out
       have hs62 : w56.cell? ⟨gb121, 5, none⟩ = some (.bool false) := (Zd BK121.out 5).trans rfl
       have hfs62 := Zf BK121.out 5
       have hns62_0 := NB101_121.out
       have hms62_0 := NB121_101.out
       have hs63 : w56.cell? ⟨gb121, 6, none⟩ = some (.slice none 0 0) := (Zd BK121.out 6).trans rfl
       have hfs63 := Zf BK121.out 6
       have hns63_0 := NB101_121.out
       have hms63_0 := NB121_101.out
       refine skip_ (w1 := ?_) (by rfl) rfl ?_ ?_
       rotate_left
       ·go_simp
        rfl
       refine hK.out _ _ ⟨((Zbb (p := ⟨gb121, _, none⟩) (by first | exact Zka (Zda (by have := Zh _ _ hw118_0; first | rwa [Zia] at this | exact this) GW121.out) | (rw [Zia]; exact Zka (Zda (by have := Zh _ _ hw118_0; first | rwa [Zia] at this | exact this) GW121.out)) | (show (Addr.add _ _).block ≠ _; rw [Zia]; exact Zka (Zda (by have := Zh _ _ hw118_0; first | rwa [Zia] at this | exact this) GW121.out)) | (dsimp only; exact Zka (Zda (by have := Zh _ _ hw118_0; first | rwa [Zia] at this | exact this) GW121.out))) _).trans (((Zbb (p := ⟨gb121, _, none⟩) (by first | exact Zka (Zda (by have := Zh _ _ hw118_0; first | rwa [Zia] at this | exact this) GW121.out) | (rw [Zia]; exact Zka (Zda (by have := Zh _ _ hw118_0; first | rwa [Zia] at this | exact this) GW121.out)) | (show (Addr.add _ _).block ≠ _; rw [Zia]; exact Zka (Zda (by have := Zh _ _ hw118_0; first | rwa [Zia] at this | exact this) GW121.out)) | (dsimp only; exact Zka (Zda (by have := Zh _ _ hw118_0; first | rwa [Zia] at this | exact this) GW121.out))) _).trans (((Zbb (p := ⟨gb121, _, none⟩) (by first | exact Zka (Zda (by have := Zh _ _ hw118_0; first | rwa [Zia] at this | exact this) GW121.out) | (rw [Zia]; exact Zka (Zda (by have := Zh _ _ hw118_0; first | rwa [Zia] at this | exact this) GW121.out)) | (show (Addr.add _ _).block ≠ _; rw [Zia]; exact Zka (Zda (by have := Zh _ _ hw118_0; first | rwa [Zia] at this | exact this) GW121.out)) | (dsimp only; exact Zka (Zda (by have := Zh _ _ hw118_0; first | rwa [Zia] at this | exact this) GW121.out))) _).trans (((Zbb (p := ⟨gb121, _, none⟩) (by first | exact Zka (Zda (by have := Zh _ _ hw118_0; first | rwa [Zia] at this | exact this) GW121.out) | (rw [Zia]; exact Zka (Zda (by have := Zh _ _ hw118_0; first | rwa [Zia] at this | exact this) GW121.out)) | (show (Addr.add _ _).block ≠ _; rw [Zia]; exact Zka (Zda (by have := Zh _ _ hw118_0; first | rwa [Zia] at this | exact this) GW121.out)) | (dsimp only; exact Zka (Zda (by have := Zh _ _ hw118_0; first | rwa [Zia] at this | exact this) GW121.out))) _).trans (((Zbb (p := ⟨gb121, _, none⟩) (by first | exact Zka (Zda (by have := Zh _ _ hw118_0; first | rwa [Zia] at this | exact this) GW121.out) | (rw [Zia]; exact Zka (Zda (by have := Zh _ _ hw118_0; first | rwa [Zia] at this | exact this) GW121.out)) | (show (Addr.add _ _).block ≠ _; rw [Zia]; exact Zka (Zda (by have := Zh _ _ hw118_0; first | rwa [Zia] at this | exact this) GW121.out)) | (dsimp only; exact Zka (Zda (by have := Zh _ _ hw118_0; first | rwa [Zia] at this | exact this) GW121.out))) _).trans (((Zbb (p := ⟨gb121, _, none⟩) (by first | exact Zka (Zda (by have := Zh _ _ hw118_0; first | rwa [Zia] at this | exact this) GW121.out) | (rw [Zia]; exact Zka (Zda (by have := Zh _ _ hw118_0; first | rwa [Zia] at this | exact this) GW121.out)) | (show (Addr.add _ _).block ≠ _; rw [Zia]; exact Zka (Zda (by have := Zh _ _ hw118_0; first | rwa [Zia] at this | exact this) GW121.out)) | (dsimp only; exact Zka (Zda (by have := Zh _ _ hw118_0; first | rwa [Zia] at this | exact this) GW121.out))) _).trans (((Zbb (p := ⟨gb121, _, none⟩) (by first | exact Zka (Zda (by have := Zh _ _ hw118_0; first | rwa [Zia] at this | exact this) GW121.out) | (rw [Zia]; exact Zka (Zda (by have := Zh _ _ hw118_0; first | rwa [Zia] at this | exact this) GW121.out)) | (show (Addr.add _ _).block ≠ _; rw [Zia]; exact Zka (Zda (by have := Zh _ _ hw118_0; first | rwa [Zia] at this | exact this) GW121.out)) | (dsimp only; exact Zka (Zda (by have := Zh _ _ hw118_0; first | rwa [Zia] at this | exact this) GW121.out))) _).trans (hHeld.1)))))))))))))), ((Zbb (p := ⟨gb121, _, none⟩) (by first | exact Zka (Zda (by have := Zh _ _ hw119_0; first | rwa [Zia] at this | exact this) GW121.out) | (rw [Zia]; exact Zka (Zda (by have := Zh _ _ hw119_0; first | rwa [Zia] at this | exact this) GW121.out)) | (show (Addr.add _ _).block ≠ _; rw [Zia]; exact Zka (Zda (by have := Zh _ _ hw119_0; first | rwa [Zia] at this | exact this) GW121.out)) | (dsimp only; exact Zka (Zda (by have := Zh _ _ hw119_0; first | rwa [Zia] at this | exact this) GW121.out))) _).trans (((Zbb (p := ⟨gb121, _, none⟩) (by first | exact Zka (Zda (by have := Zh _ _ hw119_0; first | rwa [Zia] at this | exact this) GW121.out) | (rw [Zia]; exact Zka (Zda (by have := Zh _ _ hw119_0; first | rwa [Zia] at this | exact this) GW121.out)) | (show (Addr.add _ _).block ≠ _; rw [Zia]; exact Zka (Zda (by have := Zh _ _ hw119_0; first | rwa [Zia] at this | exact this) GW121.out)) | (dsimp only; exact Zka (Zda (by have := Zh _ _ hw119_0; first | rwa [Zia] at this | exact this) GW121.out))) _).trans (((Zbb (p := ⟨gb121, _, none⟩) (by first | exact Zka (Zda (by have := Zh _ _ hw119_0; first | rwa [Zia] at this | exact this) GW121.out) | (rw [Zia]; exact Zka (Zda (by have := Zh _ _ hw119_0; first | rwa [Zia] at this | exact this) GW121.out)) | (show (Addr.add _ _).block ≠ _; rw [Zia]; exact Zka (Zda (by have := Zh _ _ hw119_0; first | rwa [Zia] at this | exact this) GW121.out)) | (dsimp only; exact Zka (Zda (by have := Zh _ _ hw119_0; first | rwa [Zia] at this | exact this) GW121.out))) _).trans (((Zbb (p := ⟨gb121, _, none⟩) (by first | exact Zka (Zda (by have := Zh _ _ hw119_0; first | rwa [Zia] at this | exact this) GW121.out) | (rw [Zia]; exact Zka (Zda (by have := Zh _ _ hw119_0; first | rwa [Zia] at this | exact this) GW121.out)) | (show (Addr.add _ _).block ≠ _; rw [Zia]; exact Zka (Zda (by have := Zh _ _ hw119_0; first | rwa [Zia] at this | exact this) GW121.out)) | (dsimp only; exact Zka (Zda (by have := Zh _ _ hw119_0; first | rwa [Zia] at this | exact this) GW121.out))) _).trans (((Zbb (p := ⟨gb121, _, none⟩) (by first | exact Zka (Zda (by have := Zh _ _ hw119_0; first | rwa [Zia] at this | exact this) GW121.out) | (rw [Zia]; exact Zka (Zda (by have := Zh _ _ hw119_0; first | rwa [Zia] at this | exact this) GW121.out)) | (show (Addr.add _ _).block ≠ _; rw [Zia]; exact Zka (Zda (by have := Zh _ _ hw119_0; first | rwa [Zia] at this | exact this) GW121.out)) | (dsimp only; exact Zka (Zda (by have := Zh _ _ hw119_0; first | rwa [Zia] at this | exact this) GW121.out))) _).trans (((Zbb (p := ⟨gb121, _, none⟩) (by first | exact Zka (Zda (by have := Zh _ _ hw119_0; first | rwa [Zia] at this | exact this) GW121.out) | (rw [Zia]; exact Zka (Zda (by have := Zh _ _ hw119_0; first | rwa [Zia] at this | exact this) GW121.out)) | (show (Addr.add _ _).block ≠ _; rw [Zia]; exact Zka (Zda (by have := Zh _ _ hw119_0; first | rwa [Zia] at this | exact this) GW121.out)) | (dsimp only; exact Zka (Zda (by have := Zh _ _ hw119_0; first | rwa [Zia] at this | exact this) GW121.out))) _).trans (((Zbb (p := ⟨gb121, _, none⟩) (by first | exact Zka (Zda (by have := Zh _ _ hw119_0; first | rwa [Zia] at this | exact this) GW121.out) | (rw [Zia]; exact Zka (Zda (by have := Zh _ _ hw119_0; first | rwa [Zia] at this | exact this) GW121.out)) | (show (Addr.add _ _).block ≠ _; rw [Zia]; exact Zka (Zda (by have := Zh _ _ hw119_0; first | rwa [Zia] at this | exact this) GW121.out)) | (dsimp only; exact Zka (Zda (by have := Zh _ _ hw119_0; first | rwa [Zia] at this | exact this) GW121.out))) _).trans (hHeld.2.1)))))))))))))), ((Zbb (p := ⟨gb121, _, none⟩) (by first | exact Zka (Zda (by have := Zh _ _ hw120_0; first | rwa [Zia] at this | exact this) GW121.out) | (rw [Zia]; exact Zka (Zda (by have := Zh _ _ hw120_0; first | rwa [Zia] at this | exact this) GW121.out)) | (show (Addr.add _ _).block ≠ _; rw [Zia]; exact Zka (Zda (by have := Zh _ _ hw120_0; first | rwa [Zia] at this | exact this) GW121.out)) | (dsimp only; exact Zka (Zda (by have := Zh _ _ hw120_0; first | rwa [Zia] at this | exact this) GW121.out))) _).trans (((Zbb (p := ⟨gb121, _, none⟩) (by first | exact Zka (Zda (by have := Zh _ _ hw120_0; first | rwa [Zia] at this | exact this) GW121.out) | (rw [Zia]; exact Zka (Zda (by have := Zh _ _ hw120_0; first | rwa [Zia] at this | exact this) GW121.out)) | (show (Addr.add _ _).block ≠ _; rw [Zia]; exact Zka (Zda (by have := Zh _ _ hw120_0; first | rwa [Zia] at this | exact this) GW121.out)) | (dsimp only; exact Zka (Zda (by have := Zh _ _ hw120_0; first | rwa [Zia] at this | exact this) GW121.out))) _).trans (((Zbb (p := ⟨gb121, _, none⟩) (by first | exact Zka (Zda (by have := Zh _ _ hw120_0; first | rwa [Zia] at this | exact this) GW121.out) | (rw [Zia]; exact Zka (Zda (by have := Zh _ _ hw120_0; first | rwa [Zia] at this | exact this) GW121.out)) | (show (Addr.add _ _).block ≠ _; rw [Zia]; exact Zka (Zda (by have := Zh _ _ hw120_0; first | rwa [Zia] at this | exact this) GW121.out)) | (dsimp only; exact Zka (Zda (by have := Zh _ _ hw120_0; first | rwa [Zia] at this | exact this) GW121.out))) _).trans (((Zbb (p := ⟨gb121, _, none⟩) (by first | exact Zka (Zda (by have := Zh _ _ hw120_0; first | rwa [Zia] at this | exact this) GW121.out) | (rw [Zia]; exact Zka (Zda (by have := Zh _ _ hw120_0; first | rwa [Zia] at this | exact this) GW121.out)) | (show (Addr.add _ _).block ≠ _; rw [Zia]; exact Zka (Zda (by have := Zh _ _ hw120_0; first | rwa [Zia] at this | exact this) GW121.out)) | (dsimp only; exact Zka (Zda (by have := Zh _ _ hw120_0; first | rwa [Zia] at this | exact this) GW121.out))) _).trans (((Zbb (p := ⟨gb121, _, none⟩) (by first | exact Zka (Zda (by have := Zh _ _ hw120_0; first | rwa [Zia] at this | exact this) GW121.out) | (rw [Zia]; exact Zka (Zda (by have := Zh _ _ hw120_0; first | rwa [Zia] at this | exact this) GW121.out)) | (show (Addr.add _ _).block ≠ _; rw [Zia]; exact Zka (Zda (by have := Zh _ _ hw120_0; first | rwa [Zia] at this | exact this) GW121.out)) | (dsimp only; exact Zka (Zda (by have := Zh _ _ hw120_0; first | rwa [Zia] at this | exact this) GW121.out))) _).trans (((Zbb (p := ⟨gb121, _, none⟩) (by first | exact Zka (Zda (by have := Zh _ _ hw120_0; first | rwa [Zia] at this | exact this) GW121.out) | (rw [Zia]; exact Zka (Zda (by have := Zh _ _ hw120_0; first | rwa [Zia] at this | exact this) GW121.out)) | (show (Addr.add _ _).block ≠ _; rw [Zia]; exact Zka (Zda (by have := Zh _ _ hw120_0; first | rwa [Zia] at this | exact this) GW121.out)) | (dsimp only; exact Zka (Zda (by have := Zh _ _ hw120_0; first | rwa [Zia] at this | exact this) GW121.out))) _).trans (((Zbb (p := ⟨gb121, _, none⟩) (by first | exact Zka (Zda (by have := Zh _ _ hw120_0; first | rwa [Zia] at this | exact this) GW121.out) | (rw [Zia]; exact Zka (Zda (by have := Zh _ _ hw120_0; first | rwa [Zia] at this | exact this) GW121.out)) | (show (Addr.add _ _).block ≠ _; rw [Zia]; exact Zka (Zda (by have := Zh _ _ hw120_0; first | rwa [Zia] at this | exact this) GW121.out)) | (dsimp only; exact Zka (Zda (by have := Zh _ _ hw120_0; first | rwa [Zia] at this | exact this) GW121.out))) _).trans (hHeld.2.2))))))))))))))⟩ (fun hHeld => ?_)
       clear hK K
       refine done_ (done_of HT_.out (by kernel_rfl)) ?_
       have n0_ : Aside0 ((((((((w56.setCell ⟨gb121, 0, none⟩ (.int .i64 (wrap64 (t117)))).setCell ⟨gb121, 1, none⟩ (.int .i64 (wrap64 (t103)))).setCell ⟨gb121, 2, none⟩ (.bool (decide ((Go.bits .and .u8 (rd l1 4) 2) > 0)))).setCell ⟨gb121, 3, none⟩ (.bool (decide ((Go.bits .and .u8 (rd l1 4) 4) > 0)))).setCell ⟨gb121, 4, none⟩ (.bool (decide ((Go.bits .and .u8 (rd l1 4) 1) > 0)))).setCell ⟨gb121, 5, none⟩ (.bool false)).setCell ⟨gb121, 6, none⟩ (.slice none 0 0)).heap[gb101]? = some (.cells #[.int .i64 0, .int .i64 0, .bool false, .bool false, .bool false, .bool false, .slice none 0 0] 43 (0, 0))) := ⟨by refine kq ?_; refine Zua ?_ NB101_121.out _; refine kq ?_; refine Zua ?_ NB101_121.out _; refine kq ?_; refine Zua ?_ NB101_121.out _; refine kq ?_; refine Zua ?_ NB101_121.out _; refine kq ?_; refine Zua ?_ NB101_121.out _; refine kq ?_; refine Zua ?_ NB101_121.out _; refine kq ?_; refine Zua ?_ NB101_121.out _; refine kq ?_; exact BK101.out⟩
       have n1_ : Aside0 ((((((((w56.setCell ⟨gb121, 0, none⟩ (.int .i64 (wrap64 (t117)))).setCell ⟨gb121, 1, none⟩ (.int .i64 (wrap64 (t103)))).setCell ⟨gb121, 2, none⟩ (.bool (decide ((Go.bits .and .u8 (rd l1 4) 2) > 0)))).setCell ⟨gb121, 3, none⟩ (.bool (decide ((Go.bits .and .u8 (rd l1 4) 4) > 0)))).setCell ⟨gb121, 4, none⟩ (.bool (decide ((Go.bits .and .u8 (rd l1 4) 1) > 0)))).setCell ⟨gb121, 5, none⟩ (.bool false)).setCell ⟨gb121, 6, none⟩ (.slice none 0 0)).heap[gb121]? = some (.cells #[.int .i64 (wrap64 (t117)), .int .i64 (wrap64 (t103)), .bool (decide ((Go.bits .and .u8 (rd l1 4) 2) > 0)), .bool (decide ((Go.bits .and .u8 (rd l1 4) 4) > 0)), .bool (decide ((Go.bits .and .u8 (rd l1 4) 1) > 0)), .bool false, .slice none 0 0] 43 (0, 0))) := ⟨by refine kq ?_; exact put7 (kq BK121.out)⟩
       have n2_ : Aside0 (Below w.heap.size w (((((((w56.setCell ⟨gb121, 0, none⟩ (.int .i64 (wrap64 (t117)))).setCell ⟨gb121, 1, none⟩ (.int .i64 (wrap64 (t103)))).setCell ⟨gb121, 2, none⟩ (.bool (decide ((Go.bits .and .u8 (rd l1 4) 2) > 0)))).setCell ⟨gb121, 3, none⟩ (.bool (decide ((Go.bits .and .u8 (rd l1 4) 4) > 0)))).setCell ⟨gb121, 4, none⟩ (.bool (decide ((Go.bits .and .u8 (rd l1 4) 1) > 0)))).setCell ⟨gb121, 5, none⟩ (.bool false)).setCell ⟨gb121, 6, none⟩ (.slice none 0 0))) := ⟨bq⟩
       (try clear BK101)
       (try clear BK121)
       (try clear HB)
       generalize (((((((w56.setCell ⟨gb121, 0, none⟩ (.int .i64 (wrap64 (t117)))).setCell ⟨gb121, 1, none⟩ (.int .i64 (wrap64 (t103)))).setCell ⟨gb121, 2, none⟩ (.bool (decide ((Go.bits .and .u8 (rd l1 4) 2) > 0)))).setCell ⟨gb121, 3, none⟩ (.bool (decide ((Go.bits .and .u8 (rd l1 4) 4) > 0)))).setCell ⟨gb121, 4, none⟩ (.bool (decide ((Go.bits .and .u8 (rd l1 4) 1) > 0)))).setCell ⟨gb121, 5, none⟩ (.bool false)).setCell ⟨gb121, 6, none⟩ (.slice none 0 0)) = w64 at n0_ n1_ n2_ ⊢
       have BK101 := n0_; have BK121 := n1_; have HB := n2_; clear n0_ n1_ n2_
       obtain ⟨i065, hi065, _, hsz65, _⟩ := info_parts info5
       obtain ⟨A65, hcut65, hA65, hC65⟩ := print_mid_of (P := Try.prog) (Value.int .u8) 0 28 5 .i64 .i64 Try.underlying28 hi065 hsz65 (some ad106) c1 l1 (ji44) x8_2 (Zg (by first | (with_reducible assumption) | assumption)) (by first | exact Zg (by first | (with_reducible assumption) | assumption) | omega) (Zg (by first | (with_reducible assumption) | assumption)) HC1.out
       have HR122 := Zma (Kd.C_of_reads (h1 := fun _ => rfl) (hA65 _ (Kd.reads_of_C HR1.out)))
       have HC122 := Zma hC65
       clear hA65 hC65 hi065 hsz65
       try go_wp2_with (first | ((with_reducible refine gate_callee (f := 67) rfl ?_); refine goesL_ (some 109) rfl rfl Try.func67 (by kernel_rfl) rfl #[.slice A27 y107.length y107.length, .slice A65 ((l1.take (x8_2 : Int).toNat).drop ((ji44) : Int).toNat).length (c1 - (ji44).toNat)] rfl (by (try simp only [Zdb, Zeb, Zfb]); first | done | (rw [show ((l1.take (x8_2 : Int).toNat).drop ((ji44) : Int).toNat).length = (x8_2.toNat - (ji44).toNat) from len_mid _ _ _ (Zg (by first | (with_reducible assumption) | assumption))] <;> rfl) | (simp only [hji44]; rfl) | rfl | (simp only [Zha, Zga]; rfl)) ?_; (with_reducible refine (page_parts.calls _ _ y107 (fun k_ => k_ < w.heap.size) _ _ ((l1.take (x8_2 : Int).toNat).drop ((ji44) : Int).toNat) t123 t126 _ ?side1 ?side2 ?side3 A48.out).mono ?_); (case side1 => exact cq ((Kd.C_below HR110.out HB.out))); (case side2 => exact HC110.out); (case side3 => exact Kd.V_mk HC122.out (Kd.F_below (Kd.C_F (Kd.heap_int .u8) HR122.out) bq)); rintro e w66 ⟨v124, rfl, ho0, hb⟩; refine ⟨_, rfl, ?_⟩; have n0_ := Zma (Kd.S_lower (Kd.S_mono (ok' := fun k_ => True) ho0 (fun _ hk_ => trivial)) (Zfa bq)); have n1_ := Zma (Zab (g := gb101) (o := .cells #[.int .i64 0, .int .i64 0, .bool false, .bool false, .bool false, .bool false, .slice none 0 0] 43 (0, 0)) (kq BK101.out) hb); have n2_ := Zma (Zab (g := gb121) (o := .cells #[.int .i64 (wrap64 (t117)), .int .i64 (wrap64 (t103)), .bool (decide ((Go.bits .and .u8 (rd l1 4) 2) > 0)), .bool (decide ((Go.bits .and .u8 (rd l1 4) 4) > 0)), .bool (decide ((Go.bits .and .u8 (rd l1 4) 1) > 0)), .bool false, .slice none 0 0] 43 (0, 0)) (kq BK121.out) hb); have n3_ := Zma (Zoa bq hb); clear BK101 BK121 HB; have HO125 := n0_; have BK101 := n1_; have BK121 := n2_; have HB := n3_; clear n0_ n1_ n2_ n3_; (try clear hb); (try clear hb2); (try clear hk); (try clear hi); (try clear ho0); obtain ⟨Ao67, co67, eo67⟩ := Kd.S_slice HO125.out; subst eo67; have hnb68 := NB121_101.out; have hnc68 := NB101_121.out; obtain ⟨hcz69_0, hcz69_1, hcz69_2, hcz69_3, hcz69_4, hcz69_5, hcz69_6, hfz69_0, hfz69_1, hfz69_2, hfz69_3, hfz69_4, hfz69_5, hfz69_6⟩ := blk7 BK121.out; obtain ⟨hcz70_0, hcz70_1, hcz70_2, hcz70_3, hcz70_4, hcz70_5, hcz70_6, hfz70_0, hfz70_1, hfz70_2, hfz70_3, hfz70_4, hfz70_5, hfz70_6⟩ := blk7 BK101.out))
       refine bodyPost_ret (Zta rfl _ _ gb101 43 #[.int .i64 (wrap64 (t117)), .int .i64 (wrap64 (t103)), .bool (decide ((Go.bits .and .u8 (rd l1 4) 2) > 0)), .bool (decide ((Go.bits .and .u8 (rd l1 4) 4) > 0)), .bool (decide ((Go.bits .and .u8 (rd l1 4) 1) > 0)), .bool t126, .slice Ao67 t123.length co67] (0, 0) _ rfl (by refine kq ?_; refine Zva (cs := #[.int .i64 (wrap64 (t117)), .int .i64 (wrap64 (t103)), .bool (decide ((Go.bits .and .u8 (rd l1 4) 2) > 0)), .bool (decide ((Go.bits .and .u8 (rd l1 4) 4) > 0)), .bool (decide ((Go.bits .and .u8 (rd l1 4) 1) > 0)), .bool t126, .slice none 0 0]) ?_ 6 _ rfl; refine kq ?_; refine Zva (cs := #[.int .i64 (wrap64 (t117)), .int .i64 (wrap64 (t103)), .bool (decide ((Go.bits .and .u8 (rd l1 4) 2) > 0)), .bool (decide ((Go.bits .and .u8 (rd l1 4) 4) > 0)), .bool (decide ((Go.bits .and .u8 (rd l1 4) 1) > 0)), .bool false, .slice none 0 0]) ?_ 5 _ rfl; refine kq ?_; refine Zva (cs := #[.int .i64 (wrap64 (t117)), .int .i64 (wrap64 (t103)), .bool (decide ((Go.bits .and .u8 (rd l1 4) 2) > 0)), .bool (decide ((Go.bits .and .u8 (rd l1 4) 4) > 0)), .bool false, .bool false, .slice none 0 0]) ?_ 4 _ rfl; refine kq ?_; refine Zva (cs := #[.int .i64 (wrap64 (t117)), .int .i64 (wrap64 (t103)), .bool (decide ((Go.bits .and .u8 (rd l1 4) 2) > 0)), .bool false, .bool false, .bool false, .slice none 0 0]) ?_ 3 _ rfl; refine kq ?_; refine Zva (cs := #[.int .i64 (wrap64 (t117)), .int .i64 (wrap64 (t103)), .bool false, .bool false, .bool false, .bool false, .slice none 0 0]) ?_ 2 _ rfl; refine kq ?_; refine Zva (cs := #[.int .i64 (wrap64 (t117)), .int .i64 0, .bool false, .bool false, .bool false, .bool false, .slice none 0 0]) ?_ 1 _ rfl; refine kq ?_; refine Zva (cs := #[.int .i64 0, .int .i64 0, .bool false, .bool false, .bool false, .bool false, .slice none 0 0]) ?_ 0 _ rfl; refine kq ?_; refine Zua ?_ NB101_121.out _; refine kq ?_; refine Zua ?_ NB101_121.out _; refine kq ?_; exact BK101.out) Try.underlying43 rfl (by kernel_rfl)) rfl ?_
       exact ⟨_, by first | rfl | (simp [errW_none, errW_some] <;> rfl) | (simp only [← hji44]; first | rfl | (simp [errW_none, errW_some] <;> rfl)) | (simp [*, errW_none, errW_some] <;> rfl), by refine sq ?_; exact Kd.S_mono (Kd.S_far (p := ⟨gb101, 6, none⟩) (Kd.S_far (p := ⟨gb101, 5, none⟩) (Kd.S_far (p := ⟨gb101, 4, none⟩) (Kd.S_far (p := ⟨gb101, 3, none⟩) (Kd.S_far (p := ⟨gb101, 2, none⟩) (Kd.S_far (p := ⟨gb101, 1, none⟩) (Kd.S_far (p := ⟨gb101, 0, none⟩) (Kd.S_far (p := ⟨gb121, 5, none⟩) (Kd.S_far (p := ⟨gb121, 6, none⟩) (Kd.S_types (Kd.S_types HO125.out BK121.out (by decide)) BK101.out (by decide)) (fun _ hk => hk.1.2) (.slice Ao67 t123.length co67)) (fun _ hk => hk.1.2) (.bool t126)) (fun _ hk => hk.2) (.int .i64 (wrap64 (t117)))) (fun _ hk => hk.2) (.int .i64 (wrap64 (t103)))) (fun _ hk => hk.2) (.bool (decide ((Go.bits .and .u8 (rd l1 4) 2) > 0)))) (fun _ hk => hk.2) (.bool (decide ((Go.bits .and .u8 (rd l1 4) 4) > 0)))) (fun _ hk => hk.2) (.bool (decide ((Go.bits .and .u8 (rd l1 4) 1) > 0)))) (fun _ hk => hk.2) (.bool t126)) (fun _ hk => hk.2) (.slice Ao67 t123.length co67)) (fun _ hk => trivial), bq⟩
      rw [if_neg c39] at H
      have c39b0 : ((IntKind.u64.wrap (t113)) == t115) = false := beq_eq_false_iff_ne.mpr c39
      have c39b1 : ((IntKind.u64.wrap (t113)) != t115) = true := bne_iff_ne.mpr c39
      simp only [Zib, Zhb] at H
      obtain ⟨rfl, rfl, rfl, rfl, rfl, rfl, rfl, rfl, rfl⟩ := H
      try go_wp2
      have n0_ := Zma (Zl BK101.out)
      have n1_ := Zma (Zla HB.out)
      clear BK101 HB; have BK101 := n0_; have HB := n1_; clear n0_ n1_
      obtain ⟨i072, hi072, _, hsz72, _⟩ := info_parts info5
      obtain ⟨hcut72, hA72, hC72⟩ := print_take_of (P := Try.prog) (Value.int .u8) 0 28 5 .i64 Try.underlying28 hi072 hsz72 (some ad106) c1 l1 x8_2 (Zg (by first | (with_reducible assumption) | assumption)) (Zg (by first | (with_reducible assumption) | assumption)) HC1.out
      have HR112 := Zma (Kd.C_of_reads (h1 := fun _ => rfl) (hA72 _ (Kd.reads_of_C HR1.out)))
      have HC112 := Zma hC72
      clear hA72 hC72 hi072 hsz72
      obtain ⟨i073, hi073, _, hsz73, _⟩ := info_parts info5
      obtain ⟨A73, hcut73, hA73, hC73⟩ := print_mid_of (P := Try.prog) (Value.int .u8) 0 28 5 .i64 .i64 Try.underlying28 hi073 hsz73 (some ad106) c1 l1 17 21 (by omega) (by first | exact Zg (by first | (with_reducible assumption) | assumption) | omega) (Zg (by first | (with_reducible assumption) | assumption)) HC1.out
      have HR114 := Zma (Kd.C_of_reads (h1 := fun _ => rfl) (hA73 _ (Kd.reads_of_C HR1.out)))
      have HC114 := Zma hC73
      clear hA73 hC73 hi073 hsz73
      refine start_ (n := 10) (S := fun w' => True) (ds := []) #[ZF,ZF,ZF,ZF,ZF,ZF,ZF,ZF,ZF,ZF] (by kernel_rfl) rfl rfl trivial (fun hHeld => ?_); refine with_tabW page_Read_raw.tab19 page_Read_raw.bits19 (fun HT_ HW_ => ?_)
      generalize wr.drew = w71 at BK101 HB HR112 HR114 hHeld ⊢
      refine p1 HT_ 0 68 ?_
      refine p1 HT_ 1 69 ?_
      refine p1 HT_ 2 70 ?_
      refine p1 HT_ 3 71 ?_
      refine p1 HT_ 6 74 ?_
      refine p1 HT_ 7 75 ?_
      refine o1 HT_ 4 (some 72) (fun K hK => ?_)
      refine goes_ Try.func64 (by kernel_rfl) rfl #[.slice A0 l0.length c0, .slice (some ad106) (l1.take (x8_2 : Int).toNat).length c1] (by rfl) rfl rfl (by (try simp only [Zdb, Zeb, Zfb]); first | done | (rw [show (l1.take (x8_2 : Int).toNat).length = x8_2.toNat from (by rw [Zga]; have h_ : (x8_2 : Int) ≤ (l1.length : Int) := Zg (by first | (with_reducible assumption) | assumption); omega)] <;> rfl) | rfl | (simp only [Zha, Zga]; rfl)) ?_
      with_reducible refine (page_sum.calls _ _ l0 _ _ (l1.take (x8_2 : Int).toNat) t113 _ ?side1 ?side2 ?side3 ?side4 A35.out).mono ?_
      (case side1 => exact cq ((Kd.C_below HR0.out HB.out)))
      (case side2 => exact HC0.out)
      (case side3 => exact cq ((Kd.C_below HR112.out HB.out)))
      (case side4 => exact HC112.out)
      rintro e w74 ⟨rfl, hb⟩
      refine ⟨_, rfl, ?_⟩
      have n0_ := Zma (Zab (g := gb101) (o := .cells #[.int .i64 0, .int .i64 0, .bool false, .bool false, .bool false, .bool false, .slice none 0 0] 43 (0, 0)) (kq BK101.out) hb)
      have n1_ := Zma (Zoa bq hb)
      clear BK101 HB; have BK101 := n0_; have HB := n1_; clear n0_ n1_
      (try clear hb)
      refine hK.out _ _ trivial (fun hHeld => ?_)
      clear hK K
      refine n1 72 ?_
      refine p1 HT_ 5 73 ?_
      refine o1 HT_ 8 (some 76) (fun K hK => ?_)
      refine goes_ Try.func65 (by kernel_rfl) rfl #[.slice A73 ((l1.take 21).drop 17).length (c1 - 17)] (by rfl) rfl rfl (by (try simp only [Zdb, Zeb, Zfb]); first | done | (rw [show ((l1.take 21).drop 17).length = (21 - 17) from len_mid _ _ _ (Zg (by first | (with_reducible assumption) | assumption))] <;> rfl) | rfl | (simp only [Zha, Zga]; rfl)) ?_
      with_reducible refine (page_get.calls _ _ ((l1.take 21).drop 17) t115 _ ?side1 ?side2 A38.out).mono ?_
      (case side1 => exact cq ((Kd.C_below HR114.out HB.out)))
      (case side2 => exact HC114.out)
      rintro e w' ⟨rfl, ⟨nd, rfl⟩⟩
      refine ⟨_, rfl, ?_⟩
      refine hK.out _ _ trivial (fun hHeld => ?_)
      clear hK K
      refine n1 76 ?_
      refine p1 HT_ 9 77 ?_
      refine done_ (done_of HT_.out (by kernel_rfl)) ?_
      obtain ⟨hcz75_0, hcz75_1, hcz75_2, hcz75_3, hcz75_4, hcz75_5, hcz75_6, hfz75_0, hfz75_1, hfz75_2, hfz75_3, hfz75_4, hfz75_5, hfz75_6⟩ := blk7 BK101.out
      try go_wp2
      refine bodyPost_ret (Zta rfl _ _ gb101 43 #[.int .i64 0, .int .i64 0, .bool false, .bool false, .bool false, .bool false, .slice none 0 0] (0, 0) _ rfl (by refine kq ?_; exact put7 (kq BK101.out)) Try.underlying43 rfl (by kernel_rfl)) rfl ?_
      exact ⟨_, by first | rfl | (simp [errW_none, errW_some] <;> rfl) | (simp [*, errW_none, errW_some] <;> rfl), by first | exact Kd.S_nil _ _ _ _ _ | exact Kd.N_nil _ _ _ _ _ | exact Kd.V_nil _ _ _ _ _ | exact Kd.Q_nil _ _ _ _ _ | exact Kd.R_nil _ _ _ _ _, bq⟩
 rw [if_neg c3] at H
 have c3b0 : ((l0.length : Int) == 256) = false := beq_eq_false_iff_ne.mpr c3
 have c3b1 : ((l0.length : Int) != 256) = true := bne_iff_ne.mpr c3
 simp only [Zib, Zhb] at H
 obtain ⟨rfl, rfl, rfl, rfl, rfl, rfl, rfl, rfl, rfl⟩ := H
 go_enter Try.func35, Try.ntmps35
 go_wp2_with (first | ((with_reducible refine gate_dst (N := 4) rfl ?_); refine box_event ?hg (N := 4) ?hd (cs := #[.int .i64 0, .int .i64 0, .bool false, .bool false, .bool false, .bool false, .slice none 0 0]) (t := 43) ?hr ?_; (case hd => rfl); (case hg => rfl); (case hr => first | (go_simp; done) | (go_simp; rfl)); intro gb101 hg w76 hbox hb; have n0_ := Zma (Zoa bq hb); have n1_ := Zma (hbox); have n2_ := Zma ((by rw [hg]; exact (Zfa bq) : w.heap.size ≤ gb101)); have n3_ := Zma ((by rw [hg]; exact (Zfa bq) : w.heap.size ≤ gb101)); clear HB; have HB := n0_; have BK101 := n1_; have GW101 := n2_; have GE101 := n3_; clear n0_ n1_ n2_ n3_ hb hbox hg; obtain ⟨hcz77_0, hcz77_1, hcz77_2, hcz77_3, hcz77_4, hcz77_5, hcz77_6, hfz77_0, hfz77_1, hfz77_2, hfz77_3, hfz77_4, hfz77_5, hfz77_6⟩ := blk7 BK101.out))
 refine bodyPost_ret (Zta rfl _ _ gb101 43 #[.int .i64 0, .int .i64 0, .bool false, .bool false, .bool false, .bool false, .slice none 0 0] (0, 0) _ rfl (by refine kq ?_; exact put7 (kq BK101.out)) Try.underlying43 rfl (by kernel_rfl)) rfl ?_
 exact ⟨_, by first | rfl | (simp [errW_none, errW_some] <;> rfl) | (simp [*, errW_none, errW_some] <;> rfl), by first | exact Kd.S_nil _ _ _ _ _ | exact Kd.N_nil _ _ _ _ _ | exact Kd.V_nil _ _ _ _ _ | exact Kd.Q_nil _ _ _ _ _ | exact Kd.R_nil _ _ _ _ _, bq⟩

def page_Read.f (t b : List Int) : Option (Int × Int × Bool × Bool × Bool × Bool × (List (List Int)) × Int × Int) := if okB b ∧ b.length ≤ 1000000 then (if t.length = 256 then some (readP t b) else some (readZ 1)) else none
theorem bit_flag (x : Int) (h0 : 0 ≤ x) (h1 : x < 8) : decide (Go.bits .and .u8 x 2 > 0) = decide (x / 2 % 2 = 1) ∧ decide (Go.bits .and .u8 x 4 > 0) = decide (x / 4 % 2 = 1) ∧ decide (Go.bits .and .u8 x 1 > 0) = decide (x % 2 = 1) := by
  have : ∀ n : Fin 8, decide (Go.bits .and .u8 (n.val : Int) 2 > 0) = decide ((n.val : Int) / 2 % 2 = 1) ∧ decide (Go.bits .and .u8 (n.val : Int) 4 > 0) = decide ((n.val : Int) / 4 % 2 = 1) ∧ decide (Go.bits .and .u8 (n.val : Int) 1 > 0) = decide ((n.val : Int) % 2 = 1) := by decide +kernel
  obtain ⟨n, rfl⟩ := Int.eq_ofNat_of_zero_le h0
  exact this ⟨n, by omega⟩
theorem page_Read_end {L : List Int} (t b : List Int) (ht : t.length = 256) (hb : okB b) (hn : b.length ≤ 1000000) (h22 : ¬ b.length < 22) (hm : magic4 b = true) (h8 : ¬ rd b 4 ≥ 8) (g : Int) (hg : valI ((b.take 13).drop 5) = g) (hgm : ¬ g > 4611686018427387904) (hmany : ¬ b.length < 22 + manyP b) (ll : lacesP b = L) (hLl : L.length = manyP b) (j : Int) (hj : j = (L.length : Int)) (k : Nat) :
    page_Read_raw.l0 (k + 1) t b g (endP b : Int) L L (L.length : Int) j = some (readP t b) := by
  subst hj
  simp only [page_Read_raw.l0]
  have hbad : ¬ (magic4 b = false ∨ rd b 4 ≥ 8 ∨ valI ((b.take 13).drop 5) > 4611686018427387904) := by
    rintro (h | h | h)
    · rw [hm] at h; cases h
    · exact h8 h
    · rw [hg] at h; exact hgm h
  rw [if_neg (Int.lt_irrefl _)]
  unfold readP
  rw [if_neg h22, if_neg hbad, if_neg hmany]
  by_cases hend : b.length < endP b
  · rw [if_pos (show (b.length : Int) < (endP b : Int) by omega), if_pos hend]
    rfl
  · have h21 : 21 ≤ (b.take (endP b)).length := by
      have : 22 ≤ endP b := by unfold endP; omega
      rw [Zga]
      omega
    have hsum := page_sum_eq t (b.take (endP b)) ht h21
    have hpr := sumI_range t ((b.take (endP b)).take 17 ++ [0, 0, 0, 0] ++ (b.take (endP b)).drop 21)
    have hps : 0 ≤ pageSum t (b.take (endP b)) ∧ pageSum t (b.take (endP b)) < 4294967296 := hpr
    have hg1 : page_get.f ((b.take 21).drop 17) = some (valI ((b.take 21).drop 17)) := by
      unfold page_get.f
      exact if_pos ⟨okB_drop (okB_take hb _) _, by rw [Zha, Zga]; omega⟩
    have hg2 : page_get.f ((b.take 17).drop 13) = some (valI ((b.take 17).drop 13)) := by
      unfold page_get.f
      exact if_pos ⟨okB_drop (okB_take hb _) _, by rw [Zha, Zga]; omega⟩
    have hw : IntKind.u64.wrap (pageSum t (b.take (endP b))) = pageSum t (b.take (endP b)) := wraps_u64 _ hps.1 (by omega)
    rw [if_neg (show ¬ (b.length : Int) < (endP b : Int) by omega), if_pos (show (0 : Int) ≤ (endP b : Int) by omega), if_pos (show (endP b : Int) ≤ (b.length : Int) by omega), Int.toNat_natCast, hsum, Zsa, if_pos (show (17 : Nat) ≤ 21 by omega), if_pos (show (21 : Int) ≤ (b.length : Int) by omega), hg1, Zsa, hw, if_neg hend]
    by_cases heq : pageSum t (b.take (endP b)) = valI ((b.take 21).drop 17)
    · have hparts : page_parts.f L ((b.take (endP b)).drop (22 + manyP b)) = some (partsGo L ((b.take (endP b)).drop (22 + manyP b)) 0 false) := by
        unfold page_parts.f
        refine if_pos ⟨by rw [← ll]; exact okB_drop (okB_take hb _) _, ?_, ?_⟩
        · rw [hLl]
          have := rd_mem hb 21 (by have : Int.toNat 21 = 21 := rfl; omega)
          unfold manyP
          omega
        · rw [Zha, Zga]
          have : endP b = 22 + manyP b + sumL L := by rw [← ll]; rfl
          omega
      have hv4 : 0 ≤ valI ((b.take 17).drop 13) ∧ valI ((b.take 17).drop 13) < 4294967296 := by
        refine ⟨valI_nonneg (okB_drop (okB_take hb _) _), ?_⟩
        have := valI_lt (okB_drop (okB_take hb 17) 13)
        rw [Zha, Zga, Nat.min_eq_left (by omega)] at this
        exact this
      have hv8 : 0 ≤ g := by rw [← hg]; exact valI_nonneg (okB_drop (okB_take hb _) _)
      have h5 : manyP b ≤ 255 := by
        have := rd_mem hb 21 (by have : Int.toNat 21 = 21 := rfl; omega)
        unfold manyP
        omega
      have e22 : Aside0 (wrap64 (22 + (L.length : Int)) = ((22 + manyP b : Nat) : Int)) := ⟨by rw [hLl]; exact wadd 22 (manyP b) (by omega)⟩
      have hle : 22 + manyP b ≤ endP b := by unfold endP; omega
      have hf := bit_flag (rd b 4) (rd_mem hb 4 (by have : Int.toNat 4 = 4 := rfl; omega)).1 (by omega)
      rw [if_pos heq, if_pos (show (13 : Nat) ≤ 17 by omega), if_pos (show (17 : Int) ≤ (b.length : Int) by omega), hg2, Zsa, if_pos (show (4 : Int) < (b.length : Int) by omega), e22.out, if_pos (show (0 : Int) ≤ ((22 + manyP b : Nat) : Int) by omega), if_pos (show ((22 + manyP b : Nat) : Int) ≤ (endP b : Int) by omega), Int.toNat_natCast, hparts, Zsa, if_neg (fun h => h heq), ll, hg, wrap64_of (show -9223372036854775808 ≤ valI ((b.take 17).drop 13) by omega) (by omega), wrap64_of (show -9223372036854775808 ≤ g by omega) (by omega), hf.1, hf.2.1, hf.2.2]
    · rw [if_neg heq, if_pos heq]
      rfl
theorem page_Read_j0 (t b : List Int) (ht : t.length = 256) (hb : okB b) (hn : b.length ≤ 1000000) (h22 : ¬ b.length < 22) (hm : magic4 b = true) (h8 : ¬ rd b 4 ≥ 8) (hgm : ¬ valI ((b.take 13).drop 5) > 4611686018427387904) (g : Int) (hg : valI ((b.take 13).drop 5) = g) : Ev (fun k => page_Read_raw.j0 k t b g false) (readP t b) := by
  have h21 := rd_mem hb 21 (by have : Int.toNat 21 = 21 := rfl; omega)
  have hmi : (manyP b : Int) = rd b 21 := by unfold manyP; omega
  have h5 : manyP b ≤ 255 := by omega
  have e1A : Aside0 (wrap64 (rd b 21) = (manyP b : Int)) := ⟨by rw [wrap64_of (by omega) (by omega), hmi]⟩
  have e2A : Aside0 (wrap64 (22 + (manyP b : Int)) = ((22 + manyP b : Nat) : Int)) := ⟨by rw [wrap64_of (by omega) (by omega)]; omega⟩
  by_cases hmany : b.length < 22 + manyP b
  · have e : readP t b = readZ 4 := by
      unfold readP
      rw [if_neg h22, if_neg, if_pos hmany]
      rintro (h | h | h)
      · rw [hm] at h; cases h
      · exact h8 h
      · exact hgm h
    rw [e]
    refine Ev.step (f := fun _ => some (readZ 4)) (fun k => ?_) (Ev.now _)
    simp only [page_Read_raw.j0]
    rw [if_neg (by simp), if_pos (by omega), e1A.out, e2A.out, if_pos (by omega)]
    rfl
  · obtain ⟨L, ll⟩ : ∃ L, lacesP b = L := ⟨_, rfl⟩
    have hLl : L.length = manyP b := by rw [← ll, lacesP, Zha, Zga]; omega
    have hokL : okB L := by rw [← ll]; exact okB_drop (okB_take hb _) _
    have hE : endP b = 22 + manyP b + sumL L := by rw [← ll]; rfl
    have hsl := sumL_le L hokL
    have go : ∀ (d j e : Nat), j ≤ L.length → L.length - j = d → e + sumL (L.drop j) = endP b → Ev (fun k => page_Read_raw.l0 k t b g (e : Int) L L (L.length : Int) (j : Int)) (readP t b) := by
      intro d
      induction d with
      | zero =>
        intro j e hj hd he
        obtain rfl : j = L.length := by omega
        rw [List.drop_length, sumL] at he
        obtain rfl : e = endP b := by omega
        exact Ev.step (f := fun _ => some (readP t b)) (fun k => page_Read_end t b ht hb hn h22 hm h8 g hg (by rw [← hg]; exact hgm) hmany ll hLl _ rfl k) (Ev.now _)
      | succ d ih =>
        intro j e hj hd he
        have hj1 : j < L.length := by omega
        have hr := rd_mem hokL (j : Int) (by omega)
        rw [rd_drop L j hj1, sumL] at he
        obtain ⟨x, hxx⟩ := Int.eq_ofNat_of_zero_le hr.1
        rw [hxx] at he hr
        rw [Int.toNat_natCast] at he
        have f2A : Aside0 (wrap64 ((j : Int) + 1) = ((j + 1 : Nat) : Int)) := ⟨wsucc j (by omega)⟩
        have f3A : Aside0 (wrap64 (x : Int) = (x : Int)) := ⟨wid x (by omega)⟩
        have f4A : Aside0 (wrap64 ((e : Int) + (x : Int)) = ((e + x : Nat) : Int)) := ⟨wadd e x (by omega)⟩
        refine Ev.step (fun k => ?_) (ih (j + 1) (e + x) (by omega) (by omega) (by omega))
        simp only [page_Read_raw.l0]
        rw [if_pos (by omega), if_pos (by omega), if_pos (by omega), hxx, f3A.out, f4A.out, f2A.out]
    refine Ev.step (fun k => ?_) (go L.length 0 (22 + manyP b) (by omega) (by omega) (by rw [List.drop_zero]; omega))
    simp only [page_Read_raw.j0]
    rw [if_neg (by simp), if_pos (by omega), e1A.out, e2A.out, if_neg (by omega), if_pos (by omega), if_pos (by omega), Int.toNat_natCast, Zsa]
    have e3 : List.drop 22 (List.take (22 + manyP b) b) = L := ll
    rw [e3]
    rfl
theorem page_Read.of {t b : List Int} {r : Int × Int × Bool × Bool × Bool × Bool × (List (List Int)) × Int × Int} (h : page_Read.f t b = some r) : ∃ k, page_Read_raw.f k t b = some r := by
  unfold page_Read.f at h
  split at h
  case isFalse => cases h
  case isTrue hs =>
    obtain ⟨hb, hn⟩ := hs
    by_cases ht : t.length = 256
    · rw [if_pos ht] at h
      injection h with h
      subst h
      refine Ev.rounds ?_
      unfold page_Read_raw.f
      simp only [if_pos (show (t.length : Int) = 256 by omega)]
      by_cases h22 : b.length < 22
      · have e : readP t b = readZ 4 := by unfold readP; rw [if_pos h22]
        rw [e]
        simp only [if_pos (show (b.length : Int) < 22 by omega)]
        exact Ev.now _
      · have hg : page_get.f ((b.take 13).drop 5) = some (valI ((b.take 13).drop 5)) := by
          unfold page_get.f
          exact if_pos ⟨okB_drop (okB_take hb _) _, by rw [Zha, Zga]; omega⟩
        have hbg : page_begins.f b = some (magic4 b) := by
          unfold page_begins.f
          exact if_pos (by omega)
        simp only [if_neg (show ¬ (b.length : Int) < 22 by omega), if_pos (show (5 : Nat) ≤ 13 by omega), if_pos (show (13 : Int) ≤ (b.length : Int) by omega), hg, hbg, Zsa, if_pos (show (4 : Int) < (b.length : Int) by omega)]
        have hT : Ev (fun k => page_Read_raw.j0 k t b (valI ((b.take 13).drop 5)) true) (readZ 2) := Ev.step (f := fun _ => some (readZ 2)) (fun k => rfl) (Ev.now _)
        by_cases hbad : magic4 b = false ∨ rd b 4 ≥ 8 ∨ valI ((b.take 13).drop 5) > 4611686018427387904
        · have e : readP t b = readZ 2 := by unfold readP; rw [if_neg h22, if_pos hbad]
          rw [e]
          rcases hbad with h1 | h1 | h1
          · simp only [h1]
            exact hT
          · cases hm : magic4 b with
            | false => exact hT
            | true =>
              simp only [if_true, if_pos h1]
              exact hT
          · cases hm : magic4 b with
            | false => exact hT
            | true =>
              by_cases h2 : rd b 4 ≥ 8
              · simp only [if_true, if_pos h2]
                exact hT
              · simp only [if_true, if_neg h2, Zn h1]
                exact hT
        · have hm : magic4 b = true := by
            cases h : magic4 b with
            | true => rfl
            | false => exact absurd (.inl h) hbad
          have h8 : ¬ rd b 4 ≥ 8 := fun h => hbad (.inr (.inl h))
          have hgm : ¬ valI ((b.take 13).drop 5) > 4611686018427387904 := fun h => hbad (.inr (.inr h))
          simp only [hm, if_true, if_neg h8, Zna hgm]
          exact page_Read_j0 t b ht hb hn h22 hm h8 hgm (valI ((b.take 13).drop 5)) rfl
    · rw [if_neg ht] at h
      injection h with h
      subst h
      refine ⟨0, ?_⟩
      unfold page_Read_raw.f
      rw [if_neg (show ¬ (t.length : Int) = 256 by omega)]
      rfl
theorem page_Read.calls (A0 : Option Addr) (c0 : Nat) (l0 : List Int) (A1 : Option Addr) (c1 : Nat) (l1 : List Int) (r1 : Int) (r2 : Int) (r3 : Bool) (r4 : Bool) (r5 : Bool) (r6 : Bool) (r7 : List (List Int)) (r8 : Int) (r9 : Int) (w : World) (hr0 : Kd.C (Kd.int .u32) w A0 l0.length l0) (hc0 : l0.length ≤ c0) (hr1 : Kd.C (Kd.int .u8) w A1 l1.length l1) (hc1 : l1.length ≤ c1) (h : page_Read.f l0 l1 = some (r1, r2, r3, r4, r5, r6, r7, r8, r9)) :
  Calls Try.prog 35 #[.slice A0 l0.length c0, .slice A1 l1.length c1] w fun e w' => ∃ v6_ : Value, e = .returned (.tuple #[.agg #[.int .i64 r1, .int .i64 r2, .bool r3, .bool r4, .bool r5, .bool r6, v6_], .int .i64 r8, .int .i64 r9]) ∧ Kd.S (Kd.slice 5 (Kd.int .u8)) 28 w' w.heap.size (fun _ => True) v6_ r7 ∧ Below w.heap.size w w' := by
  obtain ⟨k, hk⟩ := page_Read.of h
  exact page_Read_raw.calls k A0 c0 l0 A1 c1 l1 r1 r2 r3 r4 r5 r6 r7 r8 r9 w hr0 hc0 hr1 hc1 hk

end Go.Proofs.Yteoclecadpapfaa.G
