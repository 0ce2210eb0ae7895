/- What a call of psaltery/page.Write does, told by a plain Lean function of its arguments. Written by a program for this claim. -/
import Derived.Test.YteoclecadpapfaaG0
import Derived.Test.YteoclecadpapfaaG32
import Derived.Test.YteoclecadpapfaaG54
import Derived.Test.YteoclecadpapfaaG64
import Derived.Test.YteoclecadpapfaaM15
import Derived.Test.YteoclecadpapfaaM13
import Derived.Test.YteoclecadpapfaaM10
import Derived.Test.YteoclecadpapfaaM10
import Derived.Test.YteoclecadpapfaaM24
namespace Go.Proofs.Yteoclecadpapfaa.G
open Go.RowKit Go.Proofs.YteoclecadpapfaaW.PrintWords Go.Proofs.YteoclecadpapfaaW.PrintLast Go.Proofs.YteoclecadpapfaaW.PrintMore
attribute [local go_sem] max2_int min2_int max_two min_two max_three min_three max_four min_four
set_option linter.unusedVariables false
set_option linter.unusedSimpArgs false

/-! ### page_Write_raw: function 34 -/
mutual
def page_Write_raw.j0 : Nat → List Int → Bool → Int → Int → Bool → Bool → Bool → Bool → List (List Int) → Option (List Int × Int)
 | 0, _, _, _, _, _, _, _, _, _ => none
 | k + 1, x0, x20, x102000, x102001, x102002, x102003, x102004, x102005, x102006 => if x20 = true then (some (([] : List Int), 1)) else ((some (([x102004, x102002, x102003] : List Bool) : List Bool)).bind fun y103 => (page_Write_raw.l0 k x0 0 y103 (y103.length : Int) 0 x102000 x102001 x102002 x102003 x102004 x102005 x102006))
def page_Write_raw.l0 : Nat → List Int → Int → List Bool → Int → Int → Int → Int → Bool → Bool → Bool → Bool → List (List Int) → Option (List Int × Int)
 | 0, _, _, _, _, _, _, _, _, _, _, _, _ => none
 | k + 1, x0, x6, x27, x28, x29, x102000, x102001, x102002, x102003, x102004, x102005, x102006 => if x29 < x28 then (if 0 ≤ x29 then (if x29 < (x27.length : Int) then (if rdOf false x27 x29 = true then (page_Write_raw.l0 k x0 (Go.bits .or .i64 x6 (shl .i64 1 x29)) x27 x28 (wrap64 (x29 + 1)) x102000 x102001 x102002 x102003 x102004 x102005 x102006) else (page_Write_raw.l0 k x0 x6 x27 x28 (wrap64 (x29 + 1)) x102000 x102001 x102002 x102003 x102004 x102005 x102006)) else (none)) else (none)) else ((some (([80, 83, 76, 84] : List Int) : List Int)).bind fun y107 => (if y107.length < 140737488355328 then ((page_put.f (y107 ++ [(x6) % 256]) x102001 8).bind fun t113 => ((page_put.f t113 x102000 4).bind fun t116 => ((page_put.f t116 0 4).bind fun t119 => ((page_laces.f x102000 x102001 x102002 x102003 x102004 x102005 x102006).bind fun t122 => (if t119.length < 140737488355328 then ((some (t119 ++ [((t122.length : Int)) % 256] : List Int)).bind fun y125 => (if y125.length + t122.length < 140737488355328 then (page_Write_raw.l1 k x0 (y125 ++ t122) x102006 (x102006.length : Int) 0) else (none))) else (none)))))) else (none)))
def page_Write_raw.l1 : Nat → List Int → List Int → List (List Int) → Int → Int → Option (List Int × Int)
 | 0, _, _, _, _, _ => none
 | k + 1, x0, x9, x65, x66, x67 => if x67 < x66 then (if 0 ≤ x67 then (if x67 < (x65.length : Int) then (if x9.length + (rd_L3 x65 x67).length < 140737488355328 then (page_Write_raw.l1 k x0 (x9 ++ (rd_L3 x65 x67)) x65 x66 (wrap64 (x67 + 1))) else (none)) else (none)) else (none)) else ((page_sum.f x0 x9).bind fun t135 => ((page_put.f ([] : List Int) (wrap64 (t135)) 4).bind fun t136 => (if x9.length + t136.length < 140737488355328 then (if 21 ≤ x9.length ∧ t136.length = 4 then (some ((put4 x9 t136), 0)) else (none)) else (none))))
end
def page_Write_raw.f (k : Nat) (l0 : List Int) (a1_0 : Int) (a1_1 : Int) (a1_2 : Bool) (a1_3 : Bool) (a1_4 : Bool) (a1_5 : Bool) (l1_6 : List (List Int)) : Option (List Int × Int) := (page_Right.f a1_0 a1_1 a1_2 a1_3 a1_4 a1_5 l1_6).bind fun t102 => (if t102 = true then (page_Write_raw.j0 k l0 ((l0.length : Int) != 256) a1_0 a1_1 a1_2 a1_3 a1_4 a1_5 l1_6) else (page_Write_raw.j0 k l0 true a1_0 a1_1 a1_2 a1_3 a1_4 a1_5 l1_6))
def page_Write_raw.T11 : Bool × List (List Nat × List Nat) := (true, [([], []), ([], []), ([1], [1]), ([0, 2], [0, 2]), ([], []), ([4], [4]), ([3, 5, 3], [3, 5]), ([6, 6], [6]), ([7, 7, 0, 1, 2, 3, 4, 5, 6, 7], [0, 7])])
def page_Write_raw.B11 : List Nat := [0, 0, 2, 7, 0, 16, 63, 127, 255]
theorem page_Write_raw.tab11 : rtab .any (opsOf Try.f34 11) = page_Write_raw.T11 := by kernel_rfl
theorem page_Write_raw.bits11 : waitsOk page_Write_raw.T11.2 page_Write_raw.B11 = true := by kernel_rfl
def page_Write_raw.T19 : Bool × List (List Nat × List Nat) := (true, [([], []), ([0], [0]), ([], []), ([], []), ([2, 3], [2, 3]), ([4], [4]), ([5, 4], [5]), ([1, 6, 6], [1, 6])])
def page_Write_raw.B19 : List Nat := [0, 1, 0, 0, 12, 28, 60, 127]
theorem page_Write_raw.tab19 : rtab .any (opsOf Try.f34 19) = page_Write_raw.T19 := by kernel_rfl
theorem page_Write_raw.bits19 : waitsOk page_Write_raw.T19.2 page_Write_raw.B19 = true := by kernel_rfl
set_option maxHeartbeats 8000000 in
set_option maxRecDepth 100000 in
theorem page_Write_raw.calls (k : Nat) (A0 : Option Addr) (c0 : Nat) (l0 : List Int) (a1_0 : Int) (a1_1 : Int) (a1_2 : Bool) (a1_3 : Bool) (a1_4 : Bool) (a1_5 : Bool) (A1_6 : Option Addr) (c1_6 : Nat) (l1_6 : List (List Int)) (r1 : List Int) (r2 : Int) (w : World) (hr0 : Kd.C (Kd.int .u32) w A0 l0.length l0) (hc0 : l0.length ≤ c0) (hr1_6 : Kd.C (Kd.slice 5 (Kd.int .u8)) w A1_6 l1_6.length l1_6) (hc1_6 : l1_6.length ≤ c1_6) (h : page_Write_raw.f k l0 a1_0 a1_1 a1_2 a1_3 a1_4 a1_5 l1_6 = some (r1, r2)) :
  Calls Try.prog 34 #[.slice A0 l0.length c0, .agg #[.int .i64 a1_0, .int .i64 a1_1, .bool a1_2, .bool a1_3, .bool a1_4, .bool a1_5, .slice A1_6 l1_6.length c1_6]] w fun e w' => ∃ v0_ : Value, e = .returned (.tuple #[v0_, .int .i64 r2]) ∧ Kd.R (Kd.int .u8) 5 w' w.heap.size (fun _ => True) v0_ r1 ∧ Below w.heap.size w w' := by
 have hu43 := Try.underlying43
 have HR0 := Zma hr0
 have HC0 := Zma hc0
 clear hr0 hc0
 have HR1_6 := Zma hr1_6
 have HC1_6 := Zma hc1_6
 clear hr1_6 hc1_6
 have HB := Zma (Below.refl w.heap.size w)
 have H : ((page_Right.f a1_0 a1_1 a1_2 a1_3 a1_4 a1_5 l1_6).bind fun t102 => (if t102 = true then (page_Write_raw.j0 k l0 ((l0.length : Int) != 256) a1_0 a1_1 a1_2 a1_3 a1_4 a1_5 l1_6) else (page_Write_raw.j0 k l0 true a1_0 a1_1 a1_2 a1_3 a1_4 a1_5 l1_6))) = some (r1, r2) := h
 clear h
 have HC3 := Zma H
 clear H
 go_enter Try.func34, Try.ntmps34
 go_upto_region 1 with (first | ((with_reducible refine gate_dst (N := 3) rfl ?_); (try (refine gate_guard (by rfl) ?_; dsimp only)); refine box_event ?hg (N := 3) ?hd (cs := #[.int .i64 a1_0, .int .i64 a1_1, .bool a1_2, .bool a1_3, .bool a1_4, .bool a1_5, .slice A1_6 l1_6.length c1_6]) (t := 43) ?hr ?_; (case hd => rfl); (case hg => rfl); (case hr => first | (go_simp; done) | (go_simp; rfl)); intro gb101 hg w4 hbox hb; have n0_ := Zma (Zoa bq hb); have n1_ := Zma (hbox); have n2_ := Zma ((by rw [hg]; exact (Zfa bq) : w.heap.size ≤ gb101)); have n3_ := Zma ((by rw [hg]; exact (Zfa bq) : w.heap.size ≤ gb101)); clear HB; have HB := n0_; have BK101 := n1_; have GW101 := n2_; have GE101 := n3_; clear n0_ n1_ n2_ n3_ hb hbox hg))
 (try simp only [Act.put, Za, Zb, Zc])
 go_cut [20] (fun v20 wc => ∃ (kq : Nat) (x20_2 : Bool), v20 = .bool x20_2 ∧ Aside0 (page_Write_raw.j0 kq l0 x20_2 a1_0 a1_1 a1_2 a1_3 a1_4 a1_5 l1_6 = some (r1, r2)) ∧ Aside0 (kq ≤ k) ∧ Aside0 (wc.heap[gb101]? = some (.cells #[.int .i64 a1_0, .int .i64 a1_1, .bool a1_2, .bool a1_3, .bool a1_4, .bool a1_5, (.slice A1_6 l1_6.length c1_6)] 43 (0, 0))) ∧ Aside0 (Below w.heap.size w wc))
 case first =>
  have H := HC3.out
  clear HC3
  replace H := Option.bind_eq_some_iff.mp H
  obtain ⟨t102, A50, H⟩ := H
  replace H : (if t102 = true then (page_Write_raw.j0 k l0 ((l0.length : Int) != 256) a1_0 a1_1 a1_2 a1_3 a1_4 a1_5 l1_6) else (page_Write_raw.j0 k l0 true a1_0 a1_1 a1_2 a1_3 a1_4 a1_5 l1_6)) = some (r1, r2) := H
  have A5 := Zma A50
  clear A50
  by_cases c6 : t102 = true
  ·subst c6
   have H1 : (page_Write_raw.j0 k l0 ((l0.length : Int) != 256) a1_0 a1_1 a1_2 a1_3 a1_4 a1_5 l1_6) = some (r1, r2) := by rw [if_pos rfl] at H; exact H
   clear H
   have H := H1
   clear H1
   have H' := Zma H
   clear H
   obtain ⟨hcz7_0, hcz7_1, hcz7_2, hcz7_3, hcz7_4, hcz7_5, hcz7_6, hfz7_0, hfz7_1, hfz7_2, hfz7_3, hfz7_4, hfz7_5, hfz7_6⟩ := blk7 BK101.out
   go_wp2_with (first | ((with_reducible refine gate_callee (f := 54) rfl ?_); refine goesL_ (some 14) rfl rfl Try.func54 (by kernel_rfl) rfl #[.agg #[.int .i64 a1_0, .int .i64 a1_1, .bool a1_2, .bool a1_3, .bool a1_4, .bool a1_5, .slice A1_6 l1_6.length c1_6]] rfl (by (try simp only [Zdb, Zeb, Zfb]); first | done | rfl | (simp only [Zha, Zga]; rfl)) ?_; (with_reducible refine (page_Right.calls a1_0 a1_1 a1_2 a1_3 a1_4 a1_5 _ _ l1_6 true _ ?side1 ?side2 A5.out).mono ?_); (case side1 => exact cq ((Kd.C_below HR1_6.out HB.out))); (case side2 => exact HC1_6.out); rintro e w8 ⟨rfl, hb⟩; refine ⟨_, rfl, ?_⟩; have n0_ := Zma (Zab (g := gb101) (o := .cells #[.int .i64 a1_0, .int .i64 a1_1, .bool a1_2, .bool a1_3, .bool a1_4, .bool a1_5, .slice A1_6 l1_6.length c1_6] 43 (0, 0)) (kq BK101.out) hb); have n1_ := Zma (Zoa bq hb); clear BK101 HB; have BK101 := n0_; have HB := n1_; clear n0_ n1_; (try clear hb); (try clear hb2); (try clear hk); (try clear hi)))
   go_meet
   case rel => exact ⟨_, (((l0.length : Int) != 256)), (by first | rfl | (simp; done) | (simp [*]; done)), H', ⟨by first | omega | exact Zra _⟩, ⟨kq BK101.out⟩, ⟨bq⟩⟩
  replace c6 := Bool.eq_false_iff.mpr c6
  subst c6
  have H1 : (page_Write_raw.j0 k l0 true a1_0 a1_1 a1_2 a1_3 a1_4 a1_5 l1_6) = some (r1, r2) := by rw [if_neg (show ¬ (false = true) by decide)] at H; exact H
  clear H
  have H := H1
  clear H1
  have H' := Zma H
  clear H
  obtain ⟨hcz9_0, hcz9_1, hcz9_2, hcz9_3, hcz9_4, hcz9_5, hcz9_6, hfz9_0, hfz9_1, hfz9_2, hfz9_3, hfz9_4, hfz9_5, hfz9_6⟩ := blk7 BK101.out
  go_wp2_with (first | ((with_reducible refine gate_callee (f := 54) rfl ?_); refine goesL_ (some 14) rfl rfl Try.func54 (by kernel_rfl) rfl #[.agg #[.int .i64 a1_0, .int .i64 a1_1, .bool a1_2, .bool a1_3, .bool a1_4, .bool a1_5, .slice A1_6 l1_6.length c1_6]] rfl (by (try simp only [Zdb, Zeb, Zfb]); first | done | rfl | (simp only [Zha, Zga]; rfl)) ?_; (with_reducible refine (page_Right.calls a1_0 a1_1 a1_2 a1_3 a1_4 a1_5 _ _ l1_6 false _ ?side1 ?side2 A5.out).mono ?_); (case side1 => exact cq ((Kd.C_below HR1_6.out HB.out))); (case side2 => exact HC1_6.out); rintro e w10 ⟨rfl, hb⟩; refine ⟨_, rfl, ?_⟩; have n0_ := Zma (Zab (g := gb101) (o := .cells #[.int .i64 a1_0, .int .i64 a1_1, .bool a1_2, .bool a1_3, .bool a1_4, .bool a1_5, .slice A1_6 l1_6.length c1_6] 43 (0, 0)) (kq BK101.out) hb); have n1_ := Zma (Zoa bq hb); clear BK101 HB; have BK101 := n0_; have HB := n1_; clear n0_ n1_; (try clear hb); (try clear hb2); (try clear hk); (try clear hi)))
  go_meet
  case rel => exact ⟨_, (true), (by first | rfl | (simp; done) | (simp [*]; done)), H', ⟨by first | omega | exact Zra _⟩, ⟨kq BK101.out⟩, ⟨bq⟩⟩
 case rest =>
  clear HC3
  try clear c1
  try clear p2
  try clear c3
  try clear c5
  try clear c6
  try clear hcz7_0
  try clear hcz7_1
  try clear hcz7_2
  try clear hcz7_3
  try clear hcz7_4
  try clear hcz7_5
  try clear hcz7_6
  try clear hcz9_0
  try clear hcz9_1
  try clear hcz9_2
  try clear hcz9_3
  try clear hcz9_4
  try clear hcz9_5
  try clear hcz9_6
  try clear hfz7_0
  try clear hfz7_1
  try clear hfz7_2
  try clear hfz7_3
  try clear hfz7_4
  try clear hfz7_5
  try clear hfz7_6
  try clear hfz9_0
  try clear hfz9_1
  try clear hfz9_2
  try clear hfz9_3
  try clear hfz9_4
  try clear hfz9_5
  try clear hfz9_6
  obtain ⟨kq, x20_2, rfl, HA, HJ2, BK101, HB⟩ := hcut
  cases kq with
  | zero => exact absurd HA.out (by simp [page_Write_raw.j0])
  | succ kj2 =>
   have H := HA.out
   clear HA
   simp only [page_Write_raw.j0] at H
   by_cases c11 : x20_2 = true
   ·subst c11
    have H1 : (some (([] : List Int), 1)) = some (r1, r2) := by rw [if_pos rfl] at H; exact H
    clear H
    have H := H1
    clear H1
    simp only [Zib, Zhb] at H
    obtain ⟨rfl, rfl⟩ := H
    go_wp2
    go_ret2
    exact ⟨_, by first | rfl | (simp [errW_none, errW_some] <;> rfl) | (simp [*, errW_none, errW_some] <;> rfl), by first | exact Kd.R_nil _ _ _ _ _ | exact Kd.N_nil _ _ _ _ _ | exact Kd.V_nil _ _ _ _ _ | exact Kd.Q_nil _ _ _ _ _ | exact Kd.S_nil _ _ _ _ _, bq⟩
   replace c11 := Bool.eq_false_iff.mpr c11
   subst c11
   have H1 : ((some (([a1_4, a1_2, a1_3] : List Bool) : List Bool)).bind fun y103 => (page_Write_raw.l0 kj2 l0 0 y103 (y103.length : Int) 0 a1_0 a1_1 a1_2 a1_3 a1_4 a1_5 l1_6)) = some (r1, r2) := by rw [if_neg (show ¬ (false = true) by decide)] at H; exact H
   clear H
   have H := H1
   clear H1
   obtain ⟨y103, hy103⟩ : ∃ y_ : List Bool, y_ = (([a1_4, a1_2, a1_3] : List Bool)) := ⟨_, rfl⟩
   replace H : (page_Write_raw.l0 kj2 l0 0 y103 (y103.length : Int) 0 a1_0 a1_1 a1_2 a1_3 a1_4 a1_5 l1_6) = some (r1, r2) := by first | (rw [hy103]; with_reducible exact H) | (have H2_ := (Zsa _ _).symm.trans H; rw [hy103]; with_reducible exact H2_) | (have H2_ := (Zsa _ _).symm.trans H; with_reducible exact H2_) | with_reducible exact H | (rw [hy103]; exact H) | exact H
   have Ny103 := Zma hy103
   clear hy103
   have H' := Zma H
   clear H
   obtain ⟨hcz12_0, hcz12_1, hcz12_2, hcz12_3, hcz12_4, hcz12_5, hcz12_6, hfz12_0, hfz12_1, hfz12_2, hfz12_3, hfz12_4, hfz12_5, hfz12_6⟩ := blk7 BK101.out
   go_wp2_with (first | ((with_reducible refine gate_dst (N := 27) rfl ?_); (try (refine gate_guard (by rfl) ?_; dsimp only)); refine Kd.R_lit Kd.bool _ 4 ?hg (N := 27) ?hd (xs := ([a1_4, a1_2, a1_3] : List Bool)) (inner := [.bool a1_4, .bool a1_2, .bool a1_3]) (ok := fun _ => True) (okp := fun _ => True) ?hr ?hp (fun _ hk => hk) trivial (Below.refl _ _) (Zra _) (by simp) ?_; (case hd => rfl); (case hg => rfl); (case hr => first | (go_simp; done) | (go_simp; rfl)); (case hp => exact (Reps.one (show Kd.M Kd.bool _ _ _ a1_4 [.bool a1_4] from rfl) (Reps.one (show Kd.M Kd.bool _ _ _ a1_2 [.bool a1_2] from rfl) (Reps.one (show Kd.M Kd.bool _ _ _ a1_3 [.bool a1_3] from rfl) (Reps.none _ _))))); intro v104 w13 ho14 hb hg_ hnew_; clear hg_ hnew_; (first | rw [← Ny103.out] at ho14 | (simp only [Int.reduceToNat] at ho14; rw [← Ny103.out] at ho14)); have n0_ := Zma (Zxa ho14 (Zfa bq)); have n1_ := Zma (Zab (g := gb101) (o := .cells #[.int .i64 a1_0, .int .i64 a1_1, .bool a1_2, .bool a1_3, .bool a1_4, .bool a1_5, .slice A1_6 l1_6.length c1_6] 43 (0, 0)) (kq BK101.out) hb); have n2_ := Zma (Zoa bq hb); clear BK101 HB; have HO105 := n0_; have BK101 := n1_; have HB := n2_; clear n0_ n1_ n2_ hb ho14; obtain ⟨Ao15, co15, eo15⟩ := Kd.R_slice HO105.out; subst eo15))
   go_loopg [6, 29] kj2 (fun kq v6 v29 w' => ∃ (x6_2 : Int) (x29_2 : Int), v6 = .int .i64 x6_2 ∧ v29 = .int .i64 x29_2 ∧ Aside0 (page_Write_raw.l0 kq l0 x6_2 y103 (y103.length : Int) x29_2 a1_0 a1_1 a1_2 a1_3 a1_4 a1_5 l1_6 = some (r1, r2)) ∧ Aside0 (kq ≤ kj2) ∧ Aside0 (Kd.R Kd.bool 4 w' w.heap.size (fun _ => True) (.slice Ao15 y103.length co15) y103) ∧ Aside0 (w'.heap[gb101]? = some (.cells #[.int .i64 a1_0, .int .i64 a1_1, .bool a1_2, .bool a1_3, .bool a1_4, .bool a1_5, (.slice A1_6 l1_6.length c1_6)] 43 (0, 0))) ∧ Aside0 (Below w.heap.size w w'))
   case atStart => exact ⟨(0), (0), (by first | rfl | (simp; done) | (simp [*]; done)), (by first | rfl | (simp; done) | (simp [*]; done)), H', ⟨Zra _⟩, ⟨rq HO105.out⟩, ⟨kq BK101.out⟩, ⟨bq⟩⟩
   case round =>
    clear H'
    try clear c1
    try clear p2
    try clear c3
    try clear c5
    try clear c6
    try clear c11
    try clear hcz12_0
    try clear hcz12_1
    try clear hcz12_2
    try clear hcz12_3
    try clear hcz12_4
    try clear hcz12_5
    try clear hcz12_6
    try clear hcz7_0
    try clear hcz7_1
    try clear hcz7_2
    try clear hcz7_3
    try clear hcz7_4
    try clear hcz7_5
    try clear hcz7_6
    try clear hcz9_0
    try clear hcz9_1
    try clear hcz9_2
    try clear hcz9_3
    try clear hcz9_4
    try clear hcz9_5
    try clear hcz9_6
    try clear hfz12_0
    try clear hfz12_1
    try clear hfz12_2
    try clear hfz12_3
    try clear hfz12_4
    try clear hfz12_5
    try clear hfz12_6
    try clear hfz7_0
    try clear hfz7_1
    try clear hfz7_2
    try clear hfz7_3
    try clear hfz7_4
    try clear hfz7_5
    try clear hfz7_6
    try clear hfz9_0
    try clear hfz9_1
    try clear hfz9_2
    try clear hfz9_3
    try clear hfz9_4
    try clear hfz9_5
    try clear hfz9_6
    try clear p2
    obtain ⟨x6_2, x29_2, rfl, rfl, HA, HK2, HO_27, BK101, HB⟩ := hrel
    cases gk with
    | zero => exact absurd HA.out (by simp [page_Write_raw.l0])
    | succ k2 =>
     have H := HA.out
     clear HA
     simp only [page_Write_raw.l0] at H
     by_cases c16 : x29_2 < (y103.length : Int)
     ·rw [if_pos c16] at H
      have c16b0 : decide (x29_2 < (y103.length : Int)) = true := Zn c16
      clear c16
      by_cases c17 : 0 ≤ x29_2
      rotate_left
      ·rw [if_neg c17] at H
       exact absurd H (by simp)
      rw [if_pos c17] at H
      have c17b0 : decide (0 ≤ x29_2) = true := Zn c17
      clear c17
      by_cases c18 : x29_2 < (y103.length : Int)
      rotate_left
      ·rw [if_neg c18] at H
       exact absurd H (by simp)
      rw [if_pos c18] at H
      have c18b0 : decide (x29_2 < (y103.length : Int)) = true := Zn c18
      clear c18
      obtain ⟨bq19, hbq19⟩ : ∃ b_ : Bool, b_ = (rdOf false y103 x29_2) := ⟨_, rfl⟩
      replace H : (if bq19 = true then (page_Write_raw.l0 k2 l0 (Go.bits .or .i64 x6_2 (shl .i64 1 x29_2)) y103 (y103.length : Int) (wrap64 (x29_2 + 1)) a1_0 a1_1 a1_2 a1_3 a1_4 a1_5 l1_6) else (page_Write_raw.l0 k2 l0 x6_2 y103 (y103.length : Int) (wrap64 (x29_2 + 1)) a1_0 a1_1 a1_2 a1_3 a1_4 a1_5 l1_6)) = some (r1, r2) := by rw [← hbq19] at H; exact H
      have Nbq19 := Zma hbq19
      clear hbq19
      by_cases c20 : bq19 = true
      ·subst c20
       have H1 : (page_Write_raw.l0 k2 l0 (Go.bits .or .i64 x6_2 (shl .i64 1 x29_2)) y103 (y103.length : Int) (wrap64 (x29_2 + 1)) a1_0 a1_1 a1_2 a1_3 a1_4 a1_5 l1_6) = some (r1, r2) := by rw [if_pos rfl] at H; exact H
       clear H
       have H := H1
       clear H1
       have c21b0 := Zja (Zg (by first | (with_reducible assumption) | assumption) : 0 ≤ x29_2)
       obtain ⟨ji22, hji22⟩ : ∃ j_ : Int, (shl .i64 1 x29_2) = j_ := ⟨_, rfl⟩
       replace H : (page_Write_raw.l0 k2 l0 (Go.bits .or .i64 x6_2 (ji22)) y103 (y103.length : Int) (wrap64 (x29_2 + 1)) a1_0 a1_1 a1_2 a1_3 a1_4 a1_5 l1_6) = some (r1, r2) := by first | (rw [hji22] at H; exact H) | (simp only [hji22] at H ⊢; exact H)
       have hji22_ : (IntKind.i64.wrap (1 * 2 ^ min x29_2.toNat 64)) = ji22 := hji22
       have hji22z : x29_2 ≤ 64 → (IntKind.i64.wrap (1 * 2 ^ x29_2.toNat)) = ji22 := shl_small hji22
       have hji22u : (IntKind.i64.wrap (2 ^ min x29_2.toNat 64)) = ji22 := by have h_ := hji22_; rw [Int.one_mul] at h_; exact h_
       have hji22v : x29_2 ≤ 64 → (IntKind.i64.wrap (2 ^ x29_2.toNat)) = ji22 := fun hle_ => by have h_ := hji22z hle_; rw [Int.one_mul] at h_; exact h_
       have hji22y : (wrap64 (1 * 2 ^ min x29_2.toNat 64)) = ji22 := (i64_w _).symm.trans hji22_
       have hji22x : x29_2 ≤ 64 → (wrap64 (1 * 2 ^ x29_2.toNat)) = ji22 := fun h_ => (i64_w _).symm.trans (hji22z h_)
       have H' := Zma H
       clear H
       have p106 : 0 ≤ (x29_2 : Int) := Zg (by first | (with_reducible assumption) | assumption)
       have q106 : x29_2 < (y103.length : Int) := Zg (by first | (with_reducible assumption) | assumption)
       obtain ⟨ad106, e106, hx106_0⟩ := Kd.at_bool (Zkb HO_27.out).2.2 x29_2 p106 q106
       (try rw [← Nbq19.out] at hx106_0)
       cases e106
       replace p106 := Zja p106
       replace q106 := Zja q106
       go_wp2
       go_roundg k2
       case measure => have := HJ2.out; have := HK2.out; omega
       case rel => exact ⟨(Go.bits .or .i64 x6_2 (ji22)), (wrap64 (x29_2 + 1)), (by first | rfl | (simp; done) | (simp only [← hji22] <;> (first | rfl | simp)) | (simp [*]; done)), (by first | rfl | (simp; done) | (simp [*]; done)), H', ⟨by have := HJ2.out; have := HK2.out; omega⟩, ⟨rq HO_27.out⟩, ⟨kq BK101.out⟩, ⟨bq⟩⟩
      replace c20 := Bool.eq_false_iff.mpr c20
      subst c20
      have H1 : (page_Write_raw.l0 k2 l0 x6_2 y103 (y103.length : Int) (wrap64 (x29_2 + 1)) a1_0 a1_1 a1_2 a1_3 a1_4 a1_5 l1_6) = some (r1, r2) := by rw [if_neg (show ¬ (false = true) by decide)] at H; exact H
      clear H
      have H := H1
      clear H1
      have H' := Zma H
      clear H
      have p106 : 0 ≤ (x29_2 : Int) := Zg (by first | (with_reducible assumption) | assumption)
      have q106 : x29_2 < (y103.length : Int) := Zg (by first | (with_reducible assumption) | assumption)
      obtain ⟨ad106, e106, hx106_0⟩ := Kd.at_bool (Zkb HO_27.out).2.2 x29_2 p106 q106
      (try rw [← Nbq19.out] at hx106_0)
      cases e106
      replace p106 := Zja p106
      replace q106 := Zja q106
      go_wp2
      go_roundg k2
      case measure => have := HJ2.out; have := HK2.out; omega
      case rel => exact ⟨(x6_2), (wrap64 (x29_2 + 1)), (by first | rfl | (simp; done) | (simp [*]; done)), (by first | rfl | (simp; done) | (simp [*]; done)), H', ⟨by have := HJ2.out; have := HK2.out; omega⟩, ⟨rq HO_27.out⟩, ⟨kq BK101.out⟩, ⟨bq⟩⟩
     rw [if_neg c16] at H
     have c16b0 : decide (x29_2 < (y103.length : Int)) = false := Zna c16
     clear c16
     obtain ⟨y107, hy107⟩ : ∃ y_ : List Int, y_ = (([80, 83, 76, 84] : List Int)) := ⟨_, rfl⟩
     replace H : (if y107.length < 140737488355328 then ((page_put.f (y107 ++ [(x6_2) % 256]) a1_1 8).bind fun t113 => ((page_put.f t113 a1_0 4).bind fun t116 => ((page_put.f t116 0 4).bind fun t119 => ((page_laces.f a1_0 a1_1 a1_2 a1_3 a1_4 a1_5 l1_6).bind fun t122 => (if t119.length < 140737488355328 then ((some (t119 ++ [((t122.length : Int)) % 256] : List Int)).bind fun y125 => (if y125.length + t122.length < 140737488355328 then (page_Write_raw.l1 k2 l0 (y125 ++ t122) l1_6 (l1_6.length : Int) 0) else (none))) else (none)))))) else (none)) = some (r1, r2) := by first | (rw [hy107]; with_reducible exact H) | (have H2_ := (Zsa _ _).symm.trans H; rw [hy107]; with_reducible exact H2_) | (have H2_ := (Zsa _ _).symm.trans H; with_reducible exact H2_) | with_reducible exact H | (rw [hy107]; exact H) | exact H
     have Ny107 := Zma hy107
     clear hy107
     by_cases c23 : y107.length < 140737488355328
     rotate_left
     ·rw [if_neg c23] at H
      exact absurd H (by simp)
     rw [if_pos c23] at H
     have LMc23 := Zma c23
     clear c23
     obtain ⟨y110, hy110⟩ : ∃ y_ : List Int, y_ = (y107 ++ [(x6_2) % 256]) := ⟨_, rfl⟩
     replace H : ((page_put.f y110 a1_1 8).bind fun t113 => ((page_put.f t113 a1_0 4).bind fun t116 => ((page_put.f t116 0 4).bind fun t119 => ((page_laces.f a1_0 a1_1 a1_2 a1_3 a1_4 a1_5 l1_6).bind fun t122 => (if t119.length < 140737488355328 then ((some (t119 ++ [((t122.length : Int)) % 256] : List Int)).bind fun y125 => (if y125.length + t122.length < 140737488355328 then (page_Write_raw.l1 k2 l0 (y125 ++ t122) l1_6 (l1_6.length : Int) 0) else (none))) else (none)))))) = some (r1, r2) := by first | (rw [hy110]; with_reducible exact H) | (have H2_ := (Zsa _ _).symm.trans H; rw [hy110]; with_reducible exact H2_) | (have H2_ := (Zsa _ _).symm.trans H; with_reducible exact H2_) | with_reducible exact H | (rw [hy110]; exact H) | exact H
     have Ny110 := Zma hy110
     clear hy110
     replace H := Option.bind_eq_some_iff.mp H
     obtain ⟨t113, A240, H⟩ := H
     replace H : ((page_put.f t113 a1_0 4).bind fun t116 => ((page_put.f t116 0 4).bind fun t119 => ((page_laces.f a1_0 a1_1 a1_2 a1_3 a1_4 a1_5 l1_6).bind fun t122 => (if t119.length < 140737488355328 then ((some (t119 ++ [((t122.length : Int)) % 256] : List Int)).bind fun y125 => (if y125.length + t122.length < 140737488355328 then (page_Write_raw.l1 k2 l0 (y125 ++ t122) l1_6 (l1_6.length : Int) 0) else (none))) else (none))))) = some (r1, r2) := H
     have A24 := Zma A240
     clear A240
     replace H := Option.bind_eq_some_iff.mp H
     obtain ⟨t116, A250, H⟩ := H
     replace H : ((page_put.f t116 0 4).bind fun t119 => ((page_laces.f a1_0 a1_1 a1_2 a1_3 a1_4 a1_5 l1_6).bind fun t122 => (if t119.length < 140737488355328 then ((some (t119 ++ [((t122.length : Int)) % 256] : List Int)).bind fun y125 => (if y125.length + t122.length < 140737488355328 then (page_Write_raw.l1 k2 l0 (y125 ++ t122) l1_6 (l1_6.length : Int) 0) else (none))) else (none)))) = some (r1, r2) := H
     have A25 := Zma A250
     clear A250
     replace H := Option.bind_eq_some_iff.mp H
     obtain ⟨t119, A260, H⟩ := H
     replace H : ((page_laces.f a1_0 a1_1 a1_2 a1_3 a1_4 a1_5 l1_6).bind fun t122 => (if t119.length < 140737488355328 then ((some (t119 ++ [((t122.length : Int)) % 256] : List Int)).bind fun y125 => (if y125.length + t122.length < 140737488355328 then (page_Write_raw.l1 k2 l0 (y125 ++ t122) l1_6 (l1_6.length : Int) 0) else (none))) else (none))) = some (r1, r2) := H
     have A26 := Zma A260
     clear A260
     replace H := Option.bind_eq_some_iff.mp H
     obtain ⟨t122, A270, H⟩ := H
     replace H : (if t119.length < 140737488355328 then ((some (t119 ++ [((t122.length : Int)) % 256] : List Int)).bind fun y125 => (if y125.length + t122.length < 140737488355328 then (page_Write_raw.l1 k2 l0 (y125 ++ t122) l1_6 (l1_6.length : Int) 0) else (none))) else (none)) = some (r1, r2) := H
     have A27 := Zma A270
     clear A270
     by_cases c28 : t119.length < 140737488355328
     rotate_left
     ·rw [if_neg c28] at H
      exact absurd H (by simp)
     rw [if_pos c28] at H
     have LMc28 := Zma c28
     clear c28
     obtain ⟨y125, hy125⟩ : ∃ y_ : List Int, y_ = (t119 ++ [((t122.length : Int)) % 256]) := ⟨_, rfl⟩
     replace H : (if y125.length + t122.length < 140737488355328 then (page_Write_raw.l1 k2 l0 (y125 ++ t122) l1_6 (l1_6.length : Int) 0) else (none)) = some (r1, r2) := by first | (rw [hy125]; with_reducible exact H) | (have H2_ := (Zsa _ _).symm.trans H; rw [hy125]; with_reducible exact H2_) | (have H2_ := (Zsa _ _).symm.trans H; with_reducible exact H2_) | with_reducible exact H | (rw [hy125]; exact H) | exact H
     have Ny125 := Zma hy125
     clear hy125
     by_cases c29 : y125.length + t122.length < 140737488355328
     rotate_left
     ·rw [if_neg c29] at H
      exact absurd H (by simp)
     rw [if_pos c29] at H
     have LMc29 := Zma c29
     clear c29
     obtain ⟨y128, hy128⟩ : ∃ y_ : List Int, y_ = (y125 ++ t122) := ⟨_, rfl⟩
     replace H : (page_Write_raw.l1 k2 l0 y128 l1_6 (l1_6.length : Int) 0) = some (r1, r2) := by first | (rw [hy128]; with_reducible exact H) | (have H2_ := (Zsa _ _).symm.trans H; rw [hy128]; with_reducible exact H2_) | (have H2_ := (Zsa _ _).symm.trans H; with_reducible exact H2_) | with_reducible exact H | (rw [hy128]; exact H) | exact H
     have Ny128 := Zma hy128
     clear hy128
     have H' := Zma H
     clear H
     have hcvc := Go.Lib.run_convert_bytes_const (P := Try.prog) wr 28 5 #[.int .u8 80, .int .u8 83, .int .u8 76, .int .u8 84] 4 4 Try.underlying28 Try.underlying5
     go_wp2_with (first | ((with_reducible refine gate_builtin (b := .append) (xs := #[.tmp 41, .tmp 44]) rfl ?_); at_builtin; refine R_append_const rfl (.tmp 41) (.tmp 44) rfl Try.underlying28 info5 wr ((x6_2) % 256) rfl rfl ?_; intro v111 w32 ho hb; rw [← Ny107.out, ← Ny110.out] at ho; have n0_ := Zma (Zza HO_27.out hb); have n1_ := Zma (Zab (g := gb101) BK101.out hb); have n2_ := Zma (Zoa HB.out hb); have n3_ := Zma (Zxa ho (Zfa HB.out)); clear HO_27 BK101 HB hcvc; have HO_27 := n0_; have BK101 := n1_; have HB := n2_; have HO112 := n3_; clear n0_ n1_ n2_ n3_ ho hb))
     have n0_ := Zma (Zq HO_27.out)
     have n1_ := Zma (Zq HO112.out)
     have n2_ := Zma (Zl BK101.out)
     have n3_ := Zma (Zla HB.out)
     clear HO_27 HO112 BK101 HB; have HO_27 := n0_; have HO112 := n1_; have BK101 := n2_; have HB := n3_; clear n0_ n1_ n2_ n3_
     obtain ⟨Ao34, co34, eo34⟩ := Kd.R_slice HO112.out
     (first | subst eo34 | (injection eo34 with f1_ f2_ f3_; have f4_ := f1_.symm; have f5_ := f3_.symm; clear f1_ f2_ f3_; subst f4_; subst f5_))
     refine start_ (n := 9) (S := fun w' => w'.cell? ⟨gb101, 0, none⟩ = some (.int .i64 a1_0) ∧ w'.cell? ⟨gb101, 1, none⟩ = some (.int .i64 a1_1) ∧ w'.cell? ⟨gb101, 2, none⟩ = some (.bool a1_2) ∧ w'.cell? ⟨gb101, 3, none⟩ = some (.bool a1_3) ∧ w'.cell? ⟨gb101, 4, none⟩ = some (.bool a1_4) ∧ w'.cell? ⟨gb101, 5, none⟩ = some (.bool a1_5) ∧ w'.cell? ⟨gb101, 6, none⟩ = some (.slice A1_6 l1_6.length c1_6)) (ds := []) #[ZF,ZF,ZF,ZF,ZF,ZF,ZF,ZF,ZF] (by kernel_rfl) rfl rfl (cel7 BK101.out) (fun hHeld => ?_); refine with_tabW page_Write_raw.tab11 page_Write_raw.bits11 (fun HT_ HW_ => ?_)
     generalize w32.drew = w33 at HO_27 HO112 BK101 HB hHeld ⊢
     refine p1 HT_ 0 46 ?_
     refine p1 HT_ 1 47 ?_
     refine p1 HT_ 4 50 ?_
     refine p2 HT_ HW_ hHeld 2 48 ?_
     refine p2 HT_ HW_ hHeld 5 51 ?_
     refine o1 HT_ 3 (some 49) (fun K hK => ?_)
     refine goes_ Try.func62 (by kernel_rfl) rfl #[.slice Ao34 y110.length co34, .int .i64 a1_1, .int .i64 8] (by rfl) rfl rfl (by (try simp only [Zdb, Zeb, Zfb]); first | done | rfl | (simp only [Zha, Zga]; rfl)) ?_
     with_reducible refine (page_put.calls (fun k_ => some k_ = (.slice Ao34 y110.length co34 : Value).ownBlock) (.slice Ao34 y110.length co34) y110 a1_1 8 t113 w _ ?side1 ?side2 A24.out).mono ?_
     (case side1 => repeat (first | (with_reducible first | exact HB.out | apply Zi | apply Ze | apply Zla | refine Zm ?_ GE101.out) | exact HB.out))
     (case side2 => exact Kd.R_tight rfl HO112.out)
     rintro e w35 ⟨v114, rfl, ho0, hb, hkp⟩
     refine ⟨_, rfl, ?_⟩
     have n0_ := Zma (Kd.R_mono (ok' := fun k_ => True) (Kd.R_keptB ((Kd.R_apart' HO_27.out (Kd.R_typed HO112.out) (by decide))) hkp (fun k_ hk_ hs_ => (hk_.2) hs_)) (fun k_ hk_ => trivial))
     have n1_ := Zma (blk_kept (kq BK101.out) hkp (fun hs_ => (fun e_ => (Kd.R_ne HO112.out BK101.out (by decide)) e_) hs_))
     have n2_ := Zma (Kd.R_mono (ok' := fun k_ => True) ho0 (fun k_ hk_ => trivial))
     have n3_ := Zma (hb)
     clear HO_27 BK101 HB HO112; have HO_27 := n0_; have BK101 := n1_; have HO115 := n2_; have HB := n3_; clear n0_ n1_ n2_ n3_
     (try clear hb)
     (try clear hkp)
     (try clear ho0)
     obtain ⟨Ao36, co36, eo36⟩ := Kd.R_slice HO115.out
     (first | subst eo36 | (injection eo36 with f1_ f2_ f3_; have f4_ := f1_.symm; have f5_ := f3_.symm; clear f1_ f2_ f3_; subst f4_; subst f5_))
     refine hK.out _ _ (cel7 BK101.out) (fun hHeld => ?_)
     clear hK K
     refine n1 49 ?_
     refine o1 HT_ 6 (some 52) (fun K hK => ?_)
     refine goes_ Try.func62 (by kernel_rfl) rfl #[.slice Ao36 t113.length co36, .int .i64 a1_0, .int .i64 4] (by rfl) rfl rfl (by (try simp only [Zdb, Zeb, Zfb]); first | done | rfl | (simp only [Zha, Zga]; rfl)) ?_
     with_reducible refine (page_put.calls (fun k_ => some k_ = (.slice Ao36 t113.length co36 : Value).ownBlock) (.slice Ao36 t113.length co36) t113 a1_0 4 t116 w _ ?side1 ?side2 A25.out).mono ?_
     (case side1 => repeat (first | (with_reducible first | exact HB.out | apply Zi | apply Ze | apply Zla | refine Zm ?_ GE101.out) | exact HB.out))
     (case side2 => exact Kd.R_tight rfl HO115.out)
     rintro e w37 ⟨v117, rfl, ho0, hb, hkp⟩
     refine ⟨_, rfl, ?_⟩
     have n0_ := Zma (Kd.R_mono (ok' := fun k_ => True) (Kd.R_keptB ((Kd.R_apart' HO_27.out (Kd.R_typed HO115.out) (by decide))) hkp (fun k_ hk_ hs_ => (hk_.2) hs_)) (fun k_ hk_ => trivial))
     have n1_ := Zma (blk_kept (kq BK101.out) hkp (fun hs_ => (fun e_ => (Kd.R_ne HO115.out BK101.out (by decide)) e_) hs_))
     have n2_ := Zma (Kd.R_mono (ok' := fun k_ => True) ho0 (fun k_ hk_ => trivial))
     have n3_ := Zma (hb)
     clear HO_27 BK101 HB HO115; have HO_27 := n0_; have BK101 := n1_; have HO118 := n2_; have HB := n3_; clear n0_ n1_ n2_ n3_
     (try clear hb)
     (try clear hkp)
     (try clear ho0)
     obtain ⟨Ao38, co38, eo38⟩ := Kd.R_slice HO118.out
     (first | subst eo38 | (injection eo38 with f1_ f2_ f3_; have f4_ := f1_.symm; have f5_ := f3_.symm; clear f1_ f2_ f3_; subst f4_; subst f5_))
     refine hK.out _ _ (cel7 BK101.out) (fun hHeld => ?_)
     clear hK K
     refine n1 52 ?_
     refine o1 HT_ 7 (some 53) (fun K hK => ?_)
     refine goes_ Try.func62 (by kernel_rfl) rfl #[.slice Ao38 t116.length co38, .int .i64 0, .int .i64 4] (by rfl) rfl rfl (by (try simp only [Zdb, Zeb, Zfb]); first | done | rfl | (simp only [Zha, Zga]; rfl)) ?_
     with_reducible refine (page_put.calls (fun k_ => some k_ = (.slice Ao38 t116.length co38 : Value).ownBlock) (.slice Ao38 t116.length co38) t116 0 4 t119 w _ ?side1 ?side2 A26.out).mono ?_
     (case side1 => repeat (first | (with_reducible first | exact HB.out | apply Zi | apply Ze | apply Zla | refine Zm ?_ GE101.out) | exact HB.out))
     (case side2 => exact Kd.R_tight rfl HO118.out)
     rintro e w39 ⟨v120, rfl, ho0, hb, hkp⟩
     refine ⟨_, rfl, ?_⟩
     have n0_ := Zma (Kd.R_mono (ok' := fun k_ => True) (Kd.R_keptB ((Kd.R_apart' HO_27.out (Kd.R_typed HO118.out) (by decide))) hkp (fun k_ hk_ hs_ => (hk_.2) hs_)) (fun k_ hk_ => trivial))
     have n1_ := Zma (blk_kept (kq BK101.out) hkp (fun hs_ => (fun e_ => (Kd.R_ne HO118.out BK101.out (by decide)) e_) hs_))
     have n2_ := Zma (Kd.R_mono (ok' := fun k_ => True) ho0 (fun k_ hk_ => trivial))
     have n3_ := Zma (hb)
     clear HO_27 BK101 HB HO118; have HO_27 := n0_; have BK101 := n1_; have HO121 := n2_; have HB := n3_; clear n0_ n1_ n2_ n3_
     (try clear hb)
     (try clear hkp)
     (try clear ho0)
     refine hK.out _ _ (cel7 BK101.out) (fun hHeld => ?_)
     clear hK K
     refine n1 53 ?_
     refine p1 HT_ 8 9 ?_
     refine done_ (done_of HT_.out (by kernel_rfl)) ?_
     obtain ⟨hcz40_0, hcz40_1, hcz40_2, hcz40_3, hcz40_4, hcz40_5, hcz40_6, hfz40_0, hfz40_1, hfz40_2, hfz40_3, hfz40_4, hfz40_5, hfz40_6⟩ := blk7 BK101.out
     try go_wp2_with (first | ((with_reducible refine gate_callee (f := 63) rfl ?_); refine goesL_ (some 55) rfl rfl Try.func63 (by kernel_rfl) rfl #[.agg #[.int .i64 a1_0, .int .i64 a1_1, .bool a1_2, .bool a1_3, .bool a1_4, .bool a1_5, .slice A1_6 l1_6.length c1_6]] rfl (by (try simp only [Zdb, Zeb, Zfb]); first | done | rfl | (simp only [Zha, Zga]; rfl)) ?_; (with_reducible refine (page_laces.calls a1_0 a1_1 a1_2 a1_3 a1_4 a1_5 _ _ l1_6 t122 _ ?side1 ?side2 A27.out).mono ?_); (case side1 => exact cq ((Kd.C_below HR1_6.out HB.out))); (case side2 => exact HC1_6.out); rintro e w41 ⟨v123, rfl, ho0, hb⟩; refine ⟨_, rfl, ?_⟩; have n0_ := Zma (Zza (rq HO_27.out) hb); have n1_ := Zma (Kd.R_elder' (rq HO121.out) (Kd.R_base ho0) hb); have n2_ := Zma (Zxa (Kd.R_new' ho0 (Kd.R_lt (rq HO121.out))) (Zfa bq)); have n3_ := Zma (Zab (g := gb101) (o := .cells #[.int .i64 a1_0, .int .i64 a1_1, .bool a1_2, .bool a1_3, .bool a1_4, .bool a1_5, .slice A1_6 l1_6.length c1_6] 43 (0, 0)) (kq BK101.out) hb); have n4_ := Zma (Zoa bq hb); clear HO_27 HO121 BK101 HB; have HO_27 := n0_; have HO121 := n1_; have HO124 := n2_; have BK101 := n3_; have HB := n4_; clear n0_ n1_ n2_ n3_ n4_; (try clear hb); (try clear hb2); (try clear hk); (try clear hi); (try clear ho0); obtain ⟨Ao42, co42, eo42⟩ := Kd.R_slice HO124.out; subst eo42) | ((with_reducible refine gate_builtin (b := .append) (xs := #[.tmp 56, .tmp 60]) rfl ?_); (try (refine gate_guard (by rfl) ?_; dsimp only)); at_builtin; refine Kd.R_append (Kd.int .u8) (w0 := w) w.heap.size rfl (.tmp 56) (.tmp 60) 28 5 (.int .u8 0) 1 rfl Try.underlying28 info5 rfl (by decide) (by omega) v120 t119 (((t122.length : Int)) % 256) [.int .u8 (((t122.length : Int)) % 256)] (fun k_ => some k_ ≠ (.slice Ao42 t122.length co42 : Value).ownBlock) (fun _ => False) rfl rfl ?aP (fun _ hk => hk.elim) ?aF ?aO ?aB ?aS ?aL ?_; (case aP => exact rfl); (case aB => exact bq); (case aF => exact (fun k_ hk => Kd.fresh' (Kd.R_lt (rq HO124.out)) k_ hk)); (case aO => exact (by refine rq ?_; exact Kd.R_mono HO121.out (fun _ hk => hk.2))); (case aS => exact (Zfa bq)); (case aL => have := LMc28.out; omega); intro v126 w43 ho hb hg hat; rw [← Ny125.out] at ho; have n0_ := Zma (Kd.R_over' (rq HO_27.out) (Kd.R_typed (rq HO121.out)) (by decide) hg); have n1_ := Zma (blk_grown (g := gb101) (o := .cells #[.int .i64 a1_0, .int .i64 a1_1, .bool a1_2, .bool a1_3, .bool a1_4, .bool a1_5, .slice A1_6 l1_6.length c1_6] 43 (0, 0)) (kq BK101.out) hg (Kd.R_ne HO121.out BK101.out (by decide))); have n2_ := Zma (Kd.R_after (ok := (fun _ => True)) (rq HO124.out) hg hat); have n3_ := Zma (hb); have n4_ := Zma (ho); clear HO_27 BK101 HO124 HB HO121; have HO_27 := n0_; have BK101 := n1_; have HO124 := n2_; have HB := n3_; have HO127 := n4_; clear n0_ n1_ n2_ n3_ n4_ ho hb hg hat) | ((with_reducible refine gate_builtin (b := .append) (xs := #[.tmp 61, .tmp 62]) rfl ?_); (try (refine gate_guard (by rfl) ?_; dsimp only)); at_builtin; refine Kd.R_append_rows (Kd.int .u8) (w0 := w) w.heap.size rfl (.tmp 61) (.tmp 62) 28 5 (.int .u8 0) 1 rfl Try.underlying28 info5 rfl (by decide) (by omega) v126 y125 t122 _ _ _ (fun k_ => some k_ ≠ (.slice Ao42 t122.length co42 : Value).ownBlock) (fun _ => False) rfl rfl ?aO ?aR (fun _ _ h => h) (fun _ h => h.elim) ?aF ?aB ?aS ?aL ?_; (case aR => exact cq ((Zkb HO124.out).2.2)); (case aB => exact bq); (case aF => exact (fun k_ hk => Kd.fresh' (Kd.R_lt (rq HO124.out)) k_ hk)); (case aO => exact (rq HO127.out)); (case aS => exact (Zfa bq)); (case aL => have := LMc29.out; omega); intro v129 w44 ho hb hg hat; rw [← Ny128.out] at ho; have n0_ := Zma (Kd.R_over' (rq HO_27.out) (Kd.R_typed (rq HO127.out)) (by decide) hg); have n1_ := Zma (blk_grown (g := gb101) (o := .cells #[.int .i64 a1_0, .int .i64 a1_1, .bool a1_2, .bool a1_3, .bool a1_4, .bool a1_5, .slice A1_6 l1_6.length c1_6] 43 (0, 0)) (kq BK101.out) hg (Kd.R_ne HO127.out BK101.out (by decide))); have n2_ := Zma (Kd.R_after (ok := (fun _ => True)) (rq HO124.out) hg hat); have n3_ := Zma (hb); have n4_ := Zma (ho); clear HO_27 BK101 HO124 HB HO127; have HO_27 := n0_; have BK101 := n1_; have HO124 := n2_; have HB := n3_; have HO130 := n4_; clear n0_ n1_ n2_ n3_ n4_ ho hb hg hat; obtain ⟨hcz45_0, hcz45_1, hcz45_2, hcz45_3, hcz45_4, hcz45_5, hcz45_6, hfz45_0, hfz45_1, hfz45_2, hfz45_3, hfz45_4, hfz45_5, hfz45_6⟩ := blk7 BK101.out))
     go_loopg [9, 67] k2 (fun kq v9 v67 w' => ∃ (x9_3 : List Int) (x67_3 : Int), v67 = .int .i64 x67_3 ∧ Aside0 (page_Write_raw.l1 kq l0 x9_3 l1_6 (l1_6.length : Int) x67_3 = some (r1, r2)) ∧ Aside0 (kq ≤ k2) ∧ Aside0 (Kd.R (Kd.int .u8) 5 w' w.heap.size (fun _ => True) v9 x9_3) ∧ Aside0 (w'.heap[gb101]? = some (.cells #[.int .i64 a1_0, .int .i64 a1_1, .bool a1_2, .bool a1_3, .bool a1_4, .bool a1_5, (.slice A1_6 l1_6.length c1_6)] 43 (0, 0))) ∧ Aside0 (Below w.heap.size w w'))
     case atStart => exact ⟨(y128), (0), (by first | rfl | (simp; done) | (simp [*]; done)), H', ⟨Zra _⟩, ⟨by refine rq ?_; exact Kd.R_mono HO130.out (fun _ hk => trivial)⟩, ⟨kq BK101.out⟩, ⟨bq⟩⟩
     case round =>
      clear H'
      try clear c1
      try clear p1
      try clear q1
      try clear hx1
      try clear c2
      try clear p2
      try clear c3
      try clear c5
      try clear c6
      try clear p6
      try clear p10
      try clear q10
      try clear hx10
      try clear c11
      try clear c16
      try clear c16b0
      try clear c17
      try clear c17b0
      try clear c18
      try clear c18b0
      try clear q19
      try clear c20
      try clear c21
      try clear c21b0
      try clear c23
      try clear c28
      try clear c29
      try clear c34
      try clear hcz12_0
      try clear hcz12_1
      try clear hcz12_2
      try clear hcz12_3
      try clear hcz12_4
      try clear hcz12_5
      try clear hcz12_6
      try clear hcz40_0
      try clear hcz40_1
      try clear hcz40_2
      try clear hcz40_3
      try clear hcz40_4
      try clear hcz40_5
      try clear hcz40_6
      try clear hcz45_0
      try clear hcz45_1
      try clear hcz45_2
      try clear hcz45_3
      try clear hcz45_4
      try clear hcz45_5
      try clear hcz45_6
      try clear hcz7_0
      try clear hcz7_1
      try clear hcz7_2
      try clear hcz7_3
      try clear hcz7_4
      try clear hcz7_5
      try clear hcz7_6
      try clear hcz9_0
      try clear hcz9_1
      try clear hcz9_2
      try clear hcz9_3
      try clear hcz9_4
      try clear hcz9_5
      try clear hcz9_6
      try clear hfz12_0
      try clear hfz12_1
      try clear hfz12_2
      try clear hfz12_3
      try clear hfz12_4
      try clear hfz12_5
      try clear hfz12_6
      try clear hfz40_0
      try clear hfz40_1
      try clear hfz40_2
      try clear hfz40_3
      try clear hfz40_4
      try clear hfz40_5
      try clear hfz40_6
      try clear hfz45_0
      try clear hfz45_1
      try clear hfz45_2
      try clear hfz45_3
      try clear hfz45_4
      try clear hfz45_5
      try clear hfz45_6
      try clear hfz7_0
      try clear hfz7_1
      try clear hfz7_2
      try clear hfz7_3
      try clear hfz7_4
      try clear hfz7_5
      try clear hfz7_6
      try clear hfz9_0
      try clear hfz9_1
      try clear hfz9_2
      try clear hfz9_3
      try clear hfz9_4
      try clear hfz9_5
      try clear hfz9_6
      try clear hx106_0
      try clear p106
      try clear p2
      try clear q106
      obtain ⟨x9_3, x67_3, rfl, HA, HK3, HO_9, BK101, HB⟩ := hrel
      cases gk with
      | zero => exact absurd HA.out (by simp [page_Write_raw.l1])
      | succ k3 =>
       have H := HA.out
       clear HA
       simp only [page_Write_raw.l1] at H
       by_cases c46 : x67_3 < (l1_6.length : Int)
       ·rw [if_pos c46] at H
        have c46b0 : decide (x67_3 < (l1_6.length : Int)) = true := Zn c46
        clear c46
        by_cases c47 : 0 ≤ x67_3
        rotate_left
        ·rw [if_neg c47] at H
         exact absurd H (by simp)
        rw [if_pos c47] at H
        have c47b0 : decide (0 ≤ x67_3) = true := Zn c47
        clear c47
        by_cases c48 : x67_3 < (l1_6.length : Int)
        rotate_left
        ·rw [if_neg c48] at H
         exact absurd H (by simp)
        rw [if_pos c48] at H
        have c48b0 : decide (x67_3 < (l1_6.length : Int)) = true := Zn c48
        clear c48
        by_cases c49 : x9_3.length + (rd_L3 l1_6 x67_3).length < 140737488355328
        rotate_left
        ·rw [if_neg c49] at H
         exact absurd H (by simp)
        rw [if_pos c49] at H
        have LMc49 := Zma c49
        clear c49
        obtain ⟨y132, hy132⟩ : ∃ y_ : List Int, y_ = (x9_3 ++ (rd_L3 l1_6 x67_3)) := ⟨_, rfl⟩
        replace H : (page_Write_raw.l1 k3 l0 y132 l1_6 (l1_6.length : Int) (wrap64 (x67_3 + 1))) = some (r1, r2) := by first | (rw [hy132]; with_reducible exact H) | (have H2_ := (Zsa _ _).symm.trans H; rw [hy132]; with_reducible exact H2_) | (have H2_ := (Zsa _ _).symm.trans H; with_reducible exact H2_) | with_reducible exact H | (rw [hy132]; exact H) | exact H
        have Ny132 := Zma hy132
        clear hy132
        have H' := Zma H
        clear H
        have p131 : 0 ≤ (x67_3 : Int) := Zg (by first | (with_reducible assumption) | assumption)
        have q131 : x67_3 < (l1_6.length : Int) := Zg (by first | (with_reducible assumption) | assumption)
        obtain ⟨ad131, A131_0, c131_0, e131, hx131_0, hl131_0, hi131_0⟩ := at_L3 HR1_6.out x67_3 p131 q131
        cases e131
        replace hx131_0 := (HB.out.cell (Zh w _ hx131_0)).trans hx131_0
        have HR131_0 := Zma hi131_0
        have HC131_0 := Zma hl131_0
        clear hi131_0 hl131_0
        replace p131 := Zja p131
        replace q131 := Zja q131
        go_wp2_with (first | ((with_reducible refine gate_builtin (b := .append) (xs := #[.tmp 71, .tmp 72]) rfl ?_); (try (refine gate_guard (by rfl) ?_; dsimp only)); at_builtin; refine Kd.R_append_rows (Kd.int .u8) (w0 := w) w.heap.size rfl (.tmp 71) (.tmp 72) 28 5 (.int .u8 0) 1 rfl Try.underlying28 info5 rfl (by decide) (by omega) u9 x9_3 (rd_L3 l1_6 x67_3) _ _ _ (fun _ => True) (fun _ => False) rfl rfl ?aO ?aR (fun _ _ h => h) (fun _ h => h.elim) ?aF ?aB ?aS ?aL ?_; (case aR => exact cq ((Kd.C_below HR131_0.out HB.out))); (case aB => exact bq); (case aF => exact (fun _ _ => trivial)); (case aO => exact (rq HO_9.out)); (case aS => exact (Zfa bq)); (case aL => have := LMc49.out; omega); intro v133 w50 ho hb hg hat; rw [← Ny132.out] at ho; have n0_ := Zma (blk_grown (g := gb101) (o := .cells #[.int .i64 a1_0, .int .i64 a1_1, .bool a1_2, .bool a1_3, .bool a1_4, .bool a1_5, .slice (some ad131) l1_6.length c1_6] 43 (0, 0)) (kq BK101.out) hg (Kd.R_ne HO_9.out BK101.out (by decide))); have n1_ := Zma (hb); have n2_ := Zma (ho); clear BK101 HB HO_9; have BK101 := n0_; have HB := n1_; have HO134 := n2_; clear n0_ n1_ n2_ ho hb hg hat))
        go_roundg k3
        case measure => have := HJ2.out; have := HK2.out; have := HK3.out; omega
        case rel => exact ⟨(y132), (wrap64 (x67_3 + 1)), (by first | rfl | (simp; done) | (simp [*]; done)), H', ⟨by have := HJ2.out; have := HK2.out; have := HK3.out; omega⟩, ⟨rq HO134.out⟩, ⟨kq BK101.out⟩, ⟨bq⟩⟩
       rw [if_neg c46] at H
       have c46b0 : decide (x67_3 < (l1_6.length : Int)) = false := Zna c46
       clear c46
       replace H := Option.bind_eq_some_iff.mp H
       obtain ⟨t135, A510, H⟩ := H
       replace H : ((page_put.f ([] : List Int) (wrap64 (t135)) 4).bind fun t136 => (if x9_3.length + t136.length < 140737488355328 then (if 21 ≤ x9_3.length ∧ t136.length = 4 then (some ((put4 x9_3 t136), 0)) else (none)) else (none))) = some (r1, r2) := H
       have A51 := Zma A510
       clear A510
       replace H := Option.bind_eq_some_iff.mp H
       obtain ⟨t136, A520, H⟩ := H
       replace H : (if x9_3.length + t136.length < 140737488355328 then (if 21 ≤ x9_3.length ∧ t136.length = 4 then (some ((put4 x9_3 t136), 0)) else (none)) else (none)) = some (r1, r2) := H
       have A52 := Zma A520
       clear A520
       by_cases c53 : x9_3.length + t136.length < 140737488355328
       rotate_left
       ·rw [if_neg c53] at H
        exact absurd H (by simp)
       rw [if_pos c53] at H
       have cx : 21 ≤ x9_3.length ∧ t136.length = 4 := by
        by_cases z_ : 21 ≤ x9_3.length ∧ t136.length = 4
        ·exact z_
        rw [if_neg z_] at H
        exact absurd H (by simp)
       rw [if_pos cx] at H
       have CX := Zma cx
       clear cx
       have LMc53 := Zma c53
       clear c53
       obtain ⟨y139, hy139⟩ : ∃ y_ : List Int, y_ = (put4 x9_3 t136) := ⟨_, rfl⟩
       replace H : (some (y139, 0)) = some (r1, r2) := by first | (rw [hy139]; with_reducible exact H) | (have H2_ := (Zsa _ _).symm.trans H; rw [hy139]; with_reducible exact H2_) | (have H2_ := (Zsa _ _).symm.trans H; with_reducible exact H2_) | with_reducible exact H | (rw [hy139]; exact H) | exact H
       have Ny139 := Zma hy139
       clear hy139
       simp only [Zib, Zhb] at H
       obtain ⟨rfl, rfl⟩ := H
       try go_wp2
       have n0_ := Zma (Zq HO_9.out)
       have n1_ := Zma (Zl BK101.out)
       have n2_ := Zma (Zla HB.out)
       clear HO_9 BK101 HB; have HO_9 := n0_; have BK101 := n1_; have HB := n2_; clear n0_ n1_ n2_
       obtain ⟨Ao55, co55, eo55⟩ := Kd.R_slice HO_9.out
       (first | subst eo55 | (injection eo55 with f1_ f2_ f3_; have f4_ := f1_.symm; have f5_ := f3_.symm; clear f1_ f2_ f3_; subst f4_; subst f5_))
       obtain ⟨gw, egw, hgw, _⟩ := R_addr HO_9.out (by have := CX.out; omega)
       obtain ⟨i0w, hi0w, _, hszw, _⟩ := info_parts info5
       have hroomw := (Zkb HO_9.out).2.1
       have hcutw : ∀ W : World, (Instr.slice 28 (.slice Ao55 x9_3.length co55) (some (.int .i64 17)) (some (.int .i64 21)) (some (.int .i64 21))).run Try.prog W = .ok (.slice (some ⟨gw, 17, none⟩) 4 4) W := fun W => by rw [egw]; exact cut_mid3 (P := Try.prog) 28 5 .i64 .i64 .i64 Try.underlying28 hi0w 1 hszw (some ⟨gw, 0, none⟩) x9_3.length co55 17 21 (by omega) (by omega) (by have := CX.out; omega) hroomw W
       clear hi0w hszw hroomw
       have EGW := Zma egw
       have HGW := Zma hgw
       clear egw hgw
       refine start_ (n := 8) (S := fun w' => True) (ds := []) #[ZF,ZF,ZF,ZF,ZF,ZF,ZF,ZF] (by kernel_rfl) rfl rfl trivial (fun hHeld => ?_); refine with_tabW page_Write_raw.tab19 page_Write_raw.bits19 (fun HT_ HW_ => ?_)
       generalize wr.drew = w54 at HO_9 BK101 HB hHeld ⊢
       refine p1 HT_ 0 75 ?_
       refine p1 HT_ 1 76 ?_
       refine p1 HT_ 2 77 ?_
       refine p1 HT_ 3 78 ?_
       refine o1 HT_ 4 (some 79) (fun K hK => ?_)
       refine goes_ Try.func64 (by kernel_rfl) rfl #[.slice A0 l0.length c0, .slice Ao55 x9_3.length co55] (by rfl) rfl rfl (by (try simp only [Zdb, Zeb, Zfb]); first | done | rfl | (simp only [Zha, Zga]; rfl)) ?_
       with_reducible refine (page_sum.calls _ _ l0 _ _ x9_3 t135 _ ?side1 ?side2 ?side3 ?side4 A51.out).mono ?_
       (case side1 => exact cq ((Kd.C_below HR0.out HB.out)))
       (case side2 => exact HC0.out)
       (case side3 => exact cq ((Zkb HO_9.out).2.2))
       (case side4 => exact (Zkb HO_9.out).2.1)
       rintro e w56 ⟨rfl, hb⟩
       refine ⟨_, rfl, ?_⟩
       have n0_ := Zma (Zza (rq HO_9.out) hb)
       have n1_ := Zma (Zab (g := gb101) (o := .cells #[.int .i64 a1_0, .int .i64 a1_1, .bool a1_2, .bool a1_3, .bool a1_4, .bool a1_5, .slice A1_6 l1_6.length c1_6] 43 (0, 0)) (kq BK101.out) hb)
       have n2_ := Zma (Zoa bq hb)
       clear HO_9 BK101 HB; have HO_9 := n0_; have BK101 := n1_; have HB := n2_; clear n0_ n1_ n2_
       (try clear hb)
       refine hK.out _ _ trivial (fun hHeld => ?_)
       clear hK K
       refine n1 79 ?_
       refine p1 HT_ 5 80 ?_
       refine o1 HT_ 6 (some 81) (fun K hK => ?_)
       refine goes_ Try.func62 (by kernel_rfl) rfl #[.slice none 0 0, .int .i64 (wrap64 (t135)), .int .i64 4] (by rfl) rfl rfl (by (try simp only [Zdb, Zeb, Zfb]); first | done | rfl | (simp only [Zha, Zga]; rfl)) ?_
       refine (page_put.calls (fun k_ => some k_ = (.slice none 0 0 : Value).ownBlock) (.slice none 0 0) ([] : List Int) (wrap64 (t135)) 4 t136 w _ ?side1 ?side2 A52.out).mono ?_
       (case side1 => repeat (first | (with_reducible first | exact HB.out | apply Zi | apply Ze | apply Zla | refine Zm ?_ GE101.out) | exact HB.out))
       (case side2 => exact Kd.R_nil _ _ _ _ _)
       rintro e w57 ⟨v137, rfl, ho0, hb, hkp⟩
       refine ⟨_, rfl, ?_⟩
       have n0_ := Zma (Kd.R_mono (ok' := fun k_ => some k_ ≠ (v137 : Value).ownBlock) (Kd.R_keptB (HO_9.out) hkp (fun k_ hk_ hs_ => (fun e_ => by simp [Value.ownBlock] at e_) hs_)) (fun k_ hk_ => fun e_ => Or.elim (ho0.1 k_ e_.symm) (fun hs_ => hk_.2.1 hs_) (fun hn_ => Nat.not_le.2 hk_.2.2 hn_)))
       have n1_ := Zma (blk_kept (kq BK101.out) hkp (fun hs_ => (fun e_ => by simp [Value.ownBlock] at e_) hs_))
       have n2_ := Zma (Kd.R_mono (ok' := fun k_ => some k_ ≠ (.slice Ao55 x9_3.length co55 : Value).ownBlock) ho0 (fun k_ hk_ => Or.elim hk_ (fun hs_ => absurd hs_ (by simp [Value.ownBlock])) (fun hn_ => (Kd.fresh' (Kd.R_lt (rq HO_9.out)) k_ hn_))))
       have n3_ := Zma (hb)
       clear HO_9 BK101 HB; have HO_9 := n0_; have BK101 := n1_; have HO138 := n2_; have HB := n3_; clear n0_ n1_ n2_ n3_
       (try clear hb)
       (try clear hkp)
       (try clear ho0)
       obtain ⟨Ao59, co59, eo59⟩ := Kd.R_slice HO138.out
       (first | subst eo59 | (injection eo59 with f1_ f2_ f3_; have f4_ := f1_.symm; have f5_ := f3_.symm; clear f1_ f2_ f3_; subst f4_; subst f5_))
       refine hK.out _ _ trivial (fun hHeld => ?_)
       clear hK K
       refine n1 81 ?_
       refine o1 HT_ 7 (some 82) (fun K hK => ?_)
       have hkw : (Try.prog.info? 5).map (·.size) = some 1 := by kernel_rfl
       refine step_copy4 (P := Try.prog) (g := gw) (base := w.heap.size) (by rfl) (.tmp 76) (.tmp 81) (by rfl) Try.underlying28 hkw (by have h_ := HO_9.out; rw [EGW.out] at h_; exact h_) CX.out.1 (Zkb HO138.out).2.2 CX.out.2 (by rfl) (by rfl) ?_
       have n1_ := W4_own (y := t136) (by have h_ := HO_9.out; rw [EGW.out] at h_; exact h_)
       rw [← Ny139.out, ← EGW.out] at n1_
       have n2_ := Zma (W4_below (y := t136) HB.out HGW.out)
       generalize W4 _ gw t136 = w58 at n1_ n2_ ⊢
       have HO141 := Zma n1_
       clear HO_9 HO138 HB BK101 n1_; have HB := n2_; clear n2_
       refine hK.out _ _ trivial (fun hHeld => ?_)
       clear hK K
       refine n1 82 ?_
       refine done_ (done_of HT_.out (by kernel_rfl)) ?_
       try go_wp2
       go_ret2
       exact ⟨_, by first | rfl | (simp [errW_none, errW_some] <;> rfl) | (simp [*, errW_none, errW_some] <;> rfl), by refine rq ?_; exact Kd.R_mono HO141.out (fun _ hk => trivial), bq⟩

def page_Write.f (t : List Int) (seq gran : Int) (first last cont more : Bool) (p : List (List Int)) : Option (List Int × Int) := if smallP p ∧ p.flatten.length ≤ 500000 then (if pageRight seq gran more p = true ∧ t.length = 256 then some (pageBytes t seq gran first last cont more p, 0) else some ([], 1)) else none
theorem flag_or (c f l : Bool) : ∃ x, x = flagI f l c ∧ 0 ≤ x ∧ x < 8 := ⟨_, rfl, by cases c <;> cases f <;> cases l <;> decide, by cases c <;> cases f <;> cases l <;> decide⟩
theorem put4_mid (a y z : List Int) (x : List Int) (ha : a.length = 17) (hy : y.length = 4) (hx : x.length = 4) : put4 (a ++ x ++ z) y = a ++ y ++ z := by
  match x, y, hx, hy with
  | [x0, x1, x2, x3], [y0, y1, y2, y3], _, _ =>
    unfold put4
    have e : ∀ (i : Nat) (v : Int) (w : List Int), (a ++ w ++ z).set (17 + i) v = a ++ (w ++ z).set i v := fun i v w => by
      rw [List.append_assoc, List.set_append_right _ _ (by omega), ha, show 17 + i - 17 = i by omega]
    have e0 := e 0 (rd [y0, y1, y2, y3] 0) [x0, x1, x2, x3]
    have e1 := e 1 (rd [y0, y1, y2, y3] 1) [y0, x1, x2, x3]
    have e2 := e 2 (rd [y0, y1, y2, y3] 2) [y0, y1, x2, x3]
    have e3 := e 3 (rd [y0, y1, y2, y3] 3) [y0, y1, y2, x3]
    rw [show (17 : Nat) = 17 + 0 from rfl, e0, show a ++ ([x0, x1, x2, x3] ++ z).set 0 (rd [y0, y1, y2, y3] 0) = a ++ [y0, x1, x2, x3] ++ z from by rw [List.append_assoc]; rfl,
      show (18 : Nat) = 17 + 1 from rfl, e1, show a ++ ([y0, x1, x2, x3] ++ z).set 1 (rd [y0, y1, y2, y3] 1) = a ++ [y0, y1, x2, x3] ++ z from by rw [List.append_assoc]; rfl,
      show (19 : Nat) = 17 + 2 from rfl, e2, show a ++ ([y0, y1, x2, x3] ++ z).set 2 (rd [y0, y1, y2, y3] 2) = a ++ [y0, y1, y2, x3] ++ z from by rw [List.append_assoc]; rfl,
      show (20 : Nat) = 17 + 3 from rfl, e3, List.append_assoc]
    rfl
theorem page_Write_l1 (t x : List Int) (p : List (List Int)) (y : List Int) (hs : smallP p) (hx : x.length + p.flatten.length ≤ 700000) (hfin : ∀ k, page_Write_raw.l1 (k + 1) t (x ++ p.flatten) p (p.length : Int) (p.length : Int) = some (y, 0)) : Ev (fun k => page_Write_raw.l1 k t x p (p.length : Int) 0) (y, 0) := by
  have hn := hs.1
  have go : ∀ (d j : Nat) (z : List Int), j ≤ p.length → p.length - j = d → z ++ (p.drop j).flatten = x ++ p.flatten → Ev (fun k => page_Write_raw.l1 k t z p (p.length : Int) (j : Int)) (y, 0) := by
    intro d
    induction d with
    | zero =>
      intro j z hj hd hz
      obtain rfl : j = p.length := by omega
      rw [List.drop_length, List.flatten_nil, List.append_nil] at hz
      subst hz
      exact Ev.step (f := fun _ => some (y, 0)) (fun k => hfin k) (Ev.now _)
    | succ d ih =>
      intro j z hj hd hz
      have hj1 : j < p.length := by omega
      have g1 : (j : Int) < (p.length : Int) := by omega
      have g2 : (0 : Int) ≤ (j : Int) := by omega
      have e2A : Aside0 (wrap64 ((j : Int) + 1) = ((j + 1 : Nat) : Int)) := ⟨wsucc j (by omega)⟩
      have hzl : z.length + (rd_L3 p (j : Int)).length < 140737488355328 := by
        have := congrArg List.length hz
        rw [drop_cons p j hj1, List.flatten_cons, List.length_append, List.length_append, List.length_append] at this
        omega
      rw [drop_cons p j hj1, List.flatten_cons, ← List.append_assoc] at hz
      refine Ev.step (fun k => ?_) (ih (j + 1) _ (by omega) (by omega) hz)
      simp only [page_Write_raw.l1]
      rw [if_pos g1, if_pos g2, if_pos g1, if_pos hzl, e2A.out]
  exact go p.length 0 x (by omega) (by omega) (by rw [List.drop_zero])
theorem page_Write.of {t : List Int} {seq gran : Int} {first last cont more : Bool} {p : List (List Int)} {r : List Int × Int} (h : page_Write.f t seq gran first last cont more p = some r) : ∃ k, page_Write_raw.f k t seq gran first last cont more p = some r := by
  unfold page_Write.f at h
  split at h
  case isFalse => cases h
  case isTrue hs0 =>
    obtain ⟨hs, hfl⟩ := hs0
    have hT : ∀ k, page_Write_raw.j0 (k + 1) t true seq gran first last cont more p = some ([], 1) := fun _ => rfl
    have hR : page_Right.f seq gran first last cont more p = some (pageRight seq gran more p) := by unfold page_Right.f; exact if_pos hs
    by_cases hr : pageRight seq gran more p = true ∧ t.length = 256
    · rw [if_pos hr] at h
      injection h with h
      subst h
      obtain ⟨hr1, ht⟩ := hr
      have hL := ((pageRight_iff ..).mp hr1).2.2.2.2.1
      refine Ev.rounds ?_
      unfold page_Write_raw.f
      simp only [hR, Zsa, hr1, if_true, (show ((t.length : Int) != 256) = false from by rw [ht]; rfl), Bool.not_true]
      have hlac : page_laces.f seq gran first last cont more p = some (lacesL more p) := by unfold page_laces.f; exact if_pos hs
      have hput : ∀ (l : List Int) (v : Int) (n : Nat), n ≤ 8 → l.length ≤ 1000000 → page_put.f l v (n : Int) = some (l ++ lowI v n) := fun l v n h1 h2 => by
        unfold page_put.f
        rw [if_pos ⟨by omega, by omega, h2⟩, Int.toNat_natCast]
      -- the flags
      obtain ⟨fl, hfl0, hfl1, hfl2⟩ := flag_or cont first last
      have hfm : fl % 256 = fl := by omega
      let hd := ([80, 83, 76, 84] : List Int) ++ [fl]
      have e17 : ((([80, 83, 76, 84] : List Int) ++ [fl] ++ lowI gran 8) ++ lowI seq 4) = pageHead seq gran first last cont := by rw [hfl0]; rfl
      have hlen17 := pageHead_length seq gran first last cont
      have hlast : ∀ x6 : Int, x6 = fl → ∀ k, page_Write_raw.l0 (k + 1) t x6 [cont, first, last] 3 3 seq gran first last cont more p = page_Write_raw.l1 k t (pageHead seq gran first last cont ++ lowI 0 4 ++ [((lacesL more p).length : Int) % 256] ++ lacesL more p) p (p.length : Int) 0 := by
        intro x6 hx6 k
        subst hx6
        simp only [page_Write_raw.l0]
        have g1 : (([80, 83, 76, 84] : List Int)).length < 140737488355328 := by decide
        have p1 := hput (([80, 83, 76, 84] : List Int) ++ [x6 % 256]) gran 8 (by omega) (by simp)
        have p2 := hput ((([80, 83, 76, 84] : List Int) ++ [x6 % 256]) ++ lowI gran 8) seq 4 (by omega) (by simp [lowI_length])
        have p3 := hput (((([80, 83, 76, 84] : List Int) ++ [x6 % 256]) ++ lowI gran 8) ++ lowI seq 4) 0 4 (by omega) (by simp [lowI_length])
        have g2 : (pageHead seq gran first last cont ++ lowI 0 4).length < 140737488355328 := by rw [List.length_append, hlen17, lowI_length]; decide
        have g3 : (pageHead seq gran first last cont ++ lowI 0 4 ++ [((lacesL more p).length : Int) % 256]).length + (lacesL more p).length < 140737488355328 := by rw [List.length_append, List.length_append, hlen17, lowI_length, List.length_singleton]; omega
        rw [if_neg (by decide), Zsa, if_pos g1, show (8 : Int) = ((8 : Nat) : Int) from rfl, p1, Zsa, show (4 : Int) = ((4 : Nat) : Int) from rfl, p2, Zsa, p3, Zsa, hlac, Zsa, hfm, e17, if_pos g2, Zsa, if_pos g3]
      have hfin : ∀ k, page_Write_raw.l1 (k + 1) t ((pageHead seq gran first last cont ++ lowI 0 4 ++ [((lacesL more p).length : Int) % 256] ++ lacesL more p) ++ p.flatten) p (p.length : Int) (p.length : Int) = some (pageBytes t seq gran first last cont more p, 0) := by
        intro k
        have e : (pageHead seq gran first last cont ++ lowI 0 4 ++ [((lacesL more p).length : Int) % 256] ++ lacesL more p) ++ p.flatten = pageWith seq gran first last cont more p 0 := by
          rw [show ((lacesL more p).length : Int) % 256 = ((lacesL more p).length : Int) by omega]
          unfold pageWith pageTail
          simp only [List.append_assoc]
        rw [e]
        have hlw := pageWith_length seq gran first last cont more p 0
        simp only [page_Write_raw.l1]
        have hs1 := sumI_range t (pageWith seq gran first last cont more p 0)
        have hwA : Aside0 (wrap64 (pageSumOf t seq gran first last cont more p) = pageSumOf t seq gran first last cont more p) := ⟨wrap64_of (by unfold pageSumOf; omega) (by unfold pageSumOf; omega)⟩
        have hps := page_sum_eq t (pageWith seq gran first last cont more p 0) ht (by omega)
        rw [pageSum_with'] at hps
        have pp := hput ([] : List Int) (pageSumOf t seq gran first last cont more p) 4 (by omega) (by simp)
        have l4 : (lowI (pageSumOf t seq gran first last cont more p) 4).length = 4 := lowI_length _ _
        have g5 : (pageWith seq gran first last cont more p 0).length + (([] : List Int) ++ lowI (pageSumOf t seq gran first last cont more p) 4).length < 140737488355328 := by rw [List.nil_append, l4]; omega
        have g6 : 21 ≤ (pageWith seq gran first last cont more p 0).length ∧ (([] : List Int) ++ lowI (pageSumOf t seq gran first last cont more p) 4).length = 4 := ⟨by omega, by rw [List.nil_append, l4]⟩
        rw [if_neg (Int.lt_irrefl _), hps, Zsa, hwA.out, show (4 : Int) = ((4 : Nat) : Int) from rfl, pp, Zsa, if_pos g5, if_pos g6]
        have hq : put4 (pageWith seq gran first last cont more p 0) (([] : List Int) ++ lowI (pageSumOf t seq gran first last cont more p) 4) = pageBytes t seq gran first last cont more p := by
          rw [List.nil_append]
          exact put4_mid (pageHead seq gran first last cont) (lowI (pageSumOf t seq gran first last cont more p) 4) (pageTail more p) (lowI 0 4) hlen17 l4 (lowI_length _ _)
        rw [hq]
      have H1 := page_Write_l1 t _ p _ hs (by rw [List.length_append, List.length_append, List.length_append, hlen17, lowI_length, List.length_singleton]; omega) hfin
      have step : ∀ (j : Nat) (x6 : Int), j ≤ 3 → True := fun _ _ _ => trivial
      have H0 : Ev (fun k => page_Write_raw.l0 k t 0 [cont, first, last] 3 0 seq gran first last cont more p) (pageBytes t seq gran first last cont more p, 0) := by
        have r0 : rdOf false [cont, first, last] 0 = cont := rfl
        have r1 : rdOf false [cont, first, last] 1 = first := rfl
        have r2 : rdOf false [cont, first, last] 2 = last := rfl
        have w1 : wrap64 (0 + 1) = 1 := (wrap64_of (by omega) (by omega)).trans (by decide)
        have w2 : wrap64 (1 + 1) = 2 := (wrap64_of (by omega) (by omega)).trans (by decide)
        have w3 : wrap64 (2 + 1) = 3 := (wrap64_of (by omega) (by omega)).trans (by decide)
        have l3 : (([cont, first, last].length : Nat) : Int) = 3 := rfl
        refine Ev.step (f := fun k => page_Write_raw.l0 k t (if cont then 1 else 0) [cont, first, last] 3 1 seq gran first last cont more p) (fun k => ?_) ?_
        · simp only [page_Write_raw.l0, l3, r0, w1]
          rw [if_pos (by decide), if_pos (by decide), if_pos (by decide)]
          cases cont <;> rfl
        refine Ev.step (f := fun k => page_Write_raw.l0 k t ((if cont then 1 else 0) + (if first then 2 else 0)) [cont, first, last] 3 2 seq gran first last cont more p) (fun k => ?_) ?_
        · simp only [page_Write_raw.l0, l3, r1, w2]
          rw [if_pos (by decide), if_pos (by decide), if_pos (by decide)]
          cases cont <;> cases first <;> rfl
        refine Ev.step (f := fun k => page_Write_raw.l0 k t fl [cont, first, last] 3 3 seq gran first last cont more p) (fun k => ?_) ?_
        · simp only [page_Write_raw.l0, l3, r2, w3]
          rw [if_pos (by decide), if_pos (by decide), if_pos (by decide), hfl0]
          cases cont <;> cases first <;> cases last <;> rfl
        exact Ev.step (fun k => hlast fl rfl k) H1
      exact Ev.step (fun k => rfl) H0
    · rw [if_neg hr] at h
      injection h with h
      subst h
      refine ⟨1, ?_⟩
      unfold page_Write_raw.f
      rw [hR, Zsa]
      cases hp : pageRight seq gran more p with
      | false => exact hT 0
      | true =>
        have ht : ¬ t.length = 256 := fun h => hr ⟨hp, h⟩
        have : ((t.length : Int) != 256) = true := bne_iff_ne.mpr (by omega)
        rw [if_pos rfl, this]
        exact hT 0
theorem page_Write.calls (A0 : Option Addr) (c0 : Nat) (l0 : List Int) (a1_0 : Int) (a1_1 : Int) (a1_2 : Bool) (a1_3 : Bool) (a1_4 : Bool) (a1_5 : Bool) (A1_6 : Option Addr) (c1_6 : Nat) (l1_6 : List (List Int)) (r1 : List Int) (r2 : Int) (w : World) (hr0 : Kd.C (Kd.int .u32) w A0 l0.length l0) (hc0 : l0.length ≤ c0) (hr1_6 : Kd.C (Kd.slice 5 (Kd.int .u8)) w A1_6 l1_6.length l1_6) (hc1_6 : l1_6.length ≤ c1_6) (h : page_Write.f l0 a1_0 a1_1 a1_2 a1_3 a1_4 a1_5 l1_6 = some (r1, r2)) :
  Calls Try.prog 34 #[.slice A0 l0.length c0, .agg #[.int .i64 a1_0, .int .i64 a1_1, .bool a1_2, .bool a1_3, .bool a1_4, .bool a1_5, .slice A1_6 l1_6.length c1_6]] w fun e w' => ∃ v0_ : Value, e = .returned (.tuple #[v0_, .int .i64 r2]) ∧ Kd.R (Kd.int .u8) 5 w' w.heap.size (fun _ => True) v0_ r1 ∧ Below w.heap.size w w' := by
  obtain ⟨k, hk⟩ := page_Write.of h
  exact page_Write_raw.calls k A0 c0 l0 a1_0 a1_1 a1_2 a1_3 a1_4 a1_5 A1_6 c1_6 l1_6 r1 r2 w hr0 hc0 hr1_6 hc1_6 hk

end Go.Proofs.Yteoclecadpapfaa.G
