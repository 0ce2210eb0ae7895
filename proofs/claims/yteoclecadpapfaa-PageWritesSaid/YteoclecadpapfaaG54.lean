/- What a call of psaltery/page.laces, psaltery/page.fits, psaltery/page.Right does, told by a plain Lean function of its arguments. Written by a program for this claim. -/
import Derived.Test.YteoclecadpapfaaG0
import Derived.Test.YteoclecadpapfaaM13
import Derived.Test.YteoclecadpapfaaM4
import Derived.Test.YteoclecadpapfaaM24
namespace Go.Proofs.Yteoclecadpapfaa.G
open Go.RowKit Go.Proofs.YteoclecadpapfaaW.PrintWords Go.Proofs.YteoclecadpapfaaW.PrintLast Go.Proofs.YteoclecadpapfaaW.PrintMore
attribute [local go_sem] max2_int min2_int max_two min_two max_three min_three max_four min_four
set_option linter.unusedVariables false
set_option linter.unusedSimpArgs false

/-! ### page_laces_raw: function 63 -/
mutual
def page_laces_raw.l0 : Nat → List Int → List (List Int) → Int → Int → Int → Int → Bool → Bool → Bool → Bool → List (List Int) → Option (List Int)
 | 0, _, _, _, _, _, _, _, _, _, _, _ => none
 | k + 1, x3, x8, x9, x10, x102000, x102001, x102002, x102003, x102004, x102005, x102006 => if x10 < x9 then (if 0 ≤ x10 then (if x10 < (x8.length : Int) then (page_laces_raw.l1 k x3 x10 (rd_L3 x8 x10) ((rd_L3 x8 x10).length : Int) x8 x9 x10 x102000 x102001 x102002 x102003 x102004 x102005 x102006) else (none)) else (none)) else (some x3)
def page_laces_raw.l1 : Nat → List Int → Int → List Int → Int → List (List Int) → Int → Int → Int → Int → Bool → Bool → Bool → Bool → List (List Int) → Option (List Int)
 | 0, _, _, _, _, _, _, _, _, _, _, _, _, _, _ => none
 | k + 1, x3, x4, x5, x6, x8, x9, x10, x102000, x102001, x102002, x102003, x102004, x102005, x102006 => if x6 ≥ 255 then (if x3.length < 140737488355328 then (page_laces_raw.l1 k (x3 ++ [255]) x4 x5 (wrap64 (x6 - 255)) x8 x9 x10 x102000 x102001 x102002 x102003 x102004 x102005 x102006) else (none)) else (if x4 < (wrap64 ((x102006.length : Int) - 1)) then (if x3.length < 140737488355328 then (page_laces_raw.l0 k (x3 ++ [(x5.length : Int) % 255]) x8 x9 (wrap64 (x10 + 1)) x102000 x102001 x102002 x102003 x102004 x102005 x102006) else (none)) else (if x102005 = true then (page_laces_raw.l0 k x3 x8 x9 (wrap64 (x10 + 1)) x102000 x102001 x102002 x102003 x102004 x102005 x102006) else (if x3.length < 140737488355328 then (page_laces_raw.l0 k (x3 ++ [(x5.length : Int) % 255]) x8 x9 (wrap64 (x10 + 1)) x102000 x102001 x102002 x102003 x102004 x102005 x102006) else (none))))
end
def page_laces_raw.f (k : Nat) (a0_0 : Int) (a0_1 : Int) (a0_2 : Bool) (a0_3 : Bool) (a0_4 : Bool) (a0_5 : Bool) (l0_6 : List (List Int)) : Option (List Int) := page_laces_raw.l0 k ([] : List Int) l0_6 (l0_6.length : Int) 0 a0_0 a0_1 a0_2 a0_3 a0_4 a0_5 l0_6
set_option maxHeartbeats 8000000 in
set_option maxRecDepth 100000 in
theorem page_laces_raw.calls (k : Nat) (a0_0 : Int) (a0_1 : Int) (a0_2 : Bool) (a0_3 : Bool) (a0_4 : Bool) (a0_5 : Bool) (A0_6 : Option Addr) (c0_6 : Nat) (l0_6 : List (List Int)) (r : List Int) (w : World) (hr0_6 : Kd.C (Kd.slice 5 (Kd.int .u8)) w A0_6 l0_6.length l0_6) (hc0_6 : l0_6.length ≤ c0_6) (h : page_laces_raw.f k a0_0 a0_1 a0_2 a0_3 a0_4 a0_5 l0_6 = some r) :
  Calls Try.prog 63 #[.agg #[.int .i64 a0_0, .int .i64 a0_1, .bool a0_2, .bool a0_3, .bool a0_4, .bool a0_5, .slice A0_6 l0_6.length c0_6]] w fun e w' => ∃ v0_ : Value, e = .returned (v0_) ∧ Kd.R (Kd.int .u8) 5 w' w.heap.size (fun _ => True) v0_ r ∧ Below w.heap.size w w' := by
 have hu43 := Try.underlying43
 have HR0_6 := Zma hr0_6
 have HC0_6 := Zma hc0_6
 clear hr0_6 hc0_6
 have HB := Zma (Below.refl w.heap.size w)
 have H : (page_laces_raw.l0 k ([] : List Int) l0_6 (l0_6.length : Int) 0 a0_0 a0_1 a0_2 a0_3 a0_4 a0_5 l0_6) = some r := h
 clear h
 have H' := Zma H
 clear H
 go_enter Try.func63, Try.ntmps63
 go_wp2_with (first | ((with_reducible refine gate_dst (N := 1) rfl ?_); refine box_event ?hg (N := 1) ?hd (cs := #[.int .i64 a0_0, .int .i64 a0_1, .bool a0_2, .bool a0_3, .bool a0_4, .bool a0_5, .slice A0_6 l0_6.length c0_6]) (t := 43) ?hr ?_; (case hd => rfl); (case hg => rfl); (case hr => first | (go_simp; done) | (go_simp; rfl)); intro gb101 hg w2 hbox hb; have n0_ := Zma (Zoa bq hb); have n1_ := Zma (hbox); have n2_ := Zma ((by rw [hg]; exact (Zfa bq) : w.heap.size ≤ gb101)); have n3_ := Zma ((by rw [hg]; exact (Zfa bq) : w.heap.size ≤ gb101)); clear HB; have HB := n0_; have BK101 := n1_; have GW101 := n2_; have GE101 := n3_; clear n0_ n1_ n2_ n3_ hb hbox hg; obtain ⟨hcz3_0, hcz3_1, hcz3_2, hcz3_3, hcz3_4, hcz3_5, hcz3_6, hfz3_0, hfz3_1, hfz3_2, hfz3_3, hfz3_4, hfz3_5, hfz3_6⟩ := blk7 BK101.out))
 go_loopg [3, 10] k (fun kq v3 v10 w' => ∃ (x3_1 : List Int) (x10_1 : Int), v10 = .int .i64 x10_1 ∧ Aside0 (page_laces_raw.l0 kq x3_1 l0_6 (l0_6.length : Int) x10_1 a0_0 a0_1 a0_2 a0_3 a0_4 a0_5 l0_6 = some r) ∧ Aside0 (kq ≤ k) ∧ Aside0 (Kd.R (Kd.int .u8) 5 w' w.heap.size (fun _ => True) v3 x3_1) ∧ Aside0 (w'.heap[gb101]? = some (.cells #[.int .i64 a0_0, .int .i64 a0_1, .bool a0_2, .bool a0_3, .bool a0_4, .bool a0_5, (.slice A0_6 l0_6.length c0_6)] 43 (0, 0))) ∧ Aside0 (Below w.heap.size w w'))
 case atStart => exact ⟨(([] : List Int)), (0), (by first | rfl | (simp; done) | (simp [*]; done)), H', ⟨Zra _⟩, ⟨by first | exact Kd.R_nil _ _ _ _ _ | exact Kd.N_nil _ _ _ _ _ | exact Kd.V_nil _ _ _ _ _ | exact Kd.Q_nil _ _ _ _ _ | exact Kd.S_nil _ _ _ _ _⟩, ⟨kq BK101.out⟩, ⟨bq⟩⟩
 case round =>
  clear H'
  try clear p2
  try clear hcz3_0
  try clear hcz3_1
  try clear hcz3_2
  try clear hcz3_3
  try clear hcz3_4
  try clear hcz3_5
  try clear hcz3_6
  try clear hfz3_0
  try clear hfz3_1
  try clear hfz3_2
  try clear hfz3_3
  try clear hfz3_4
  try clear hfz3_5
  try clear hfz3_6
  obtain ⟨x3_1, x10_1, rfl, HA, HK1, HO_3, BK101, HB⟩ := hrel
  cases gk with
  | zero => exact absurd HA.out (by simp [page_laces_raw.l0])
  | succ k1 =>
   have H := HA.out
   clear HA
   simp only [page_laces_raw.l0] at H
   by_cases c4 : x10_1 < (l0_6.length : Int)
   ·rw [if_pos c4] at H
    have c4b0 : decide (x10_1 < (l0_6.length : Int)) = true := Zn c4
    clear c4
    by_cases c5 : 0 ≤ x10_1
    rotate_left
    ·rw [if_neg c5] at H
     exact absurd H (by simp)
    rw [if_pos c5] at H
    have c5b0 : decide (0 ≤ x10_1) = true := Zn c5
    clear c5
    by_cases c6 : x10_1 < (l0_6.length : Int)
    rotate_left
    ·rw [if_neg c6] at H
     exact absurd H (by simp)
    rw [if_pos c6] at H
    have c6b0 : decide (x10_1 < (l0_6.length : Int)) = true := Zn c6
    clear c6
    have H' := Zma H
    clear H
    have p102 : 0 ≤ (x10_1 : Int) := Zg (by first | (with_reducible assumption) | assumption)
    have q102 : x10_1 < (l0_6.length : Int) := Zg (by first | (with_reducible assumption) | assumption)
    obtain ⟨ad102, A102_0, c102_0, e102, hx102_0, hl102_0, hi102_0⟩ := at_L3 HR0_6.out x10_1 p102 q102
    cases e102
    replace hx102_0 := (HB.out.cell (Zh w _ hx102_0)).trans hx102_0
    have HR102_0 := Zma hi102_0
    have HC102_0 := Zma hl102_0
    clear hi102_0 hl102_0
    replace p102 := Zja p102
    replace q102 := Zja q102
    go_wp2
    go_loopg [3, 6] k1 (fun kq v3 v6 w' => ∃ (x3_2 : List Int) (x6_2 : Int), v6 = .int .i64 x6_2 ∧ Aside0 (page_laces_raw.l1 kq x3_2 x10_1 (rd_L3 l0_6 x10_1) x6_2 l0_6 (l0_6.length : Int) x10_1 a0_0 a0_1 a0_2 a0_3 a0_4 a0_5 l0_6 = some r) ∧ Aside0 (kq ≤ k1) ∧ Aside0 (Kd.R (Kd.int .u8) 5 w' w.heap.size (fun _ => True) v3 x3_2) ∧ Aside0 (w'.heap[gb101]? = some (.cells #[.int .i64 a0_0, .int .i64 a0_1, .bool a0_2, .bool a0_3, .bool a0_4, .bool a0_5, (.slice (some ad102) l0_6.length c0_6)] 43 (0, 0))) ∧ Aside0 (Below w.heap.size w w'))
    case atStart => exact ⟨(x3_1), (((rd_L3 l0_6 x10_1).length : Int)), (by first | rfl | (simp; done) | (simp [*]; done)), H', ⟨Zra _⟩, ⟨rq HO_3.out⟩, ⟨kq BK101.out⟩, ⟨bq⟩⟩
    case round =>
     clear H'
     try clear c1
     try clear p1
     try clear q1
     try clear hx1
     try clear p2
     try clear c4
     try clear c4b0
     try clear c5
     try clear c5b0
     try clear c6
     try clear c6b0
     try clear hcz3_0
     try clear hcz3_1
     try clear hcz3_2
     try clear hcz3_3
     try clear hcz3_4
     try clear hcz3_5
     try clear hcz3_6
     try clear hfz3_0
     try clear hfz3_1
     try clear hfz3_2
     try clear hfz3_3
     try clear hfz3_4
     try clear hfz3_5
     try clear hfz3_6
     try clear hx102_0
     try clear p102
     try clear p2
     try clear q102
     obtain ⟨x3_2, x6_2, rfl, HA, HK2, HO_3, BK101, HB⟩ := hrel
     cases gk with
     | zero => exact absurd HA.out (by simp [page_laces_raw.l1])
     | succ k2 =>
      have H := HA.out
      clear HA
      simp only [page_laces_raw.l1] at H
      by_cases c7 : x6_2 ≥ 255
      ·rw [if_pos c7] at H
       have c7b0 : decide (255 ≤ x6_2) = true := Zn c7
       clear c7
       by_cases c8 : x3_2.length < 140737488355328
       rotate_left
       ·rw [if_neg c8] at H
        exact absurd H (by simp)
       rw [if_pos c8] at H
       have LMc8 := Zma c8
       clear c8
       obtain ⟨y103, hy103⟩ : ∃ y_ : List Int, y_ = (x3_2 ++ [255]) := ⟨_, rfl⟩
       replace H : (page_laces_raw.l1 k2 y103 x10_1 (rd_L3 l0_6 x10_1) (wrap64 (x6_2 - 255)) l0_6 (l0_6.length : Int) x10_1 a0_0 a0_1 a0_2 a0_3 a0_4 a0_5 l0_6) = some r := by first | (rw [hy103]; with_reducible exact H) | (have H2_ := (Zsa _ _).symm.trans H; rw [hy103]; with_reducible exact H2_) | (have H2_ := (Zsa _ _).symm.trans H; with_reducible exact H2_) | with_reducible exact H | (rw [hy103]; exact H) | exact H
       have Ny103 := Zma hy103
       clear hy103
       have H' := Zma H
       clear H
       go_wp2_with (first | ((with_reducible refine gate_builtin (b := .append) (xs := #[.tmp 21, .tmp 22]) rfl ?_); at_builtin; refine Kd.R_append (Kd.int .u8) (w0 := w) w.heap.size rfl (.tmp 21) (.tmp 22) 28 5 (.int .u8 0) 1 rfl Try.underlying28 info5 rfl (by decide) (by omega) u3 x3_2 255 [.int .u8 255] (fun _ => True) (fun _ => False) rfl rfl ?aP (fun _ hk => hk.elim) ?aF ?aO ?aB ?aS ?aL ?_; (case aP => exact rfl); (case aB => exact bq); (case aF => exact (fun _ _ => trivial)); (case aO => exact (rq HO_3.out)); (case aS => exact (Zfa bq)); (case aL => have := LMc8.out; omega); intro v104 w9 ho hb hg hat; rw [← Ny103.out] at ho; have n0_ := Zma (blk_grown (g := gb101) (o := .cells #[.int .i64 a0_0, .int .i64 a0_1, .bool a0_2, .bool a0_3, .bool a0_4, .bool a0_5, .slice (some ad102) l0_6.length c0_6] 43 (0, 0)) (kq BK101.out) hg (Kd.R_ne HO_3.out BK101.out (by decide))); have n1_ := Zma (hb); have n2_ := Zma (ho); clear BK101 HB HO_3; have BK101 := n0_; have HB := n1_; have HO105 := n2_; clear n0_ n1_ n2_ ho hb hg hat))
       go_roundg k2
       case measure => have := HK1.out; have := HK2.out; omega
       case rel => exact ⟨(y103), (wrap64 (x6_2 - 255)), (by first | rfl | (simp; done) | (simp [*]; done)), H', ⟨by have := HK1.out; have := HK2.out; omega⟩, ⟨rq HO105.out⟩, ⟨kq BK101.out⟩, ⟨bq⟩⟩
      rw [if_neg c7] at H
      have c7b0 : decide (255 ≤ x6_2) = false := Zna c7
      clear c7
      by_cases c10 : x10_1 < (wrap64 ((l0_6.length : Int) - 1))
      ·rw [if_pos c10] at H
       have c10b0 : decide (x10_1 < (wrap64 ((l0_6.length : Int) - 1))) = true := Zn c10
       clear c10
       by_cases c11 : x3_2.length < 140737488355328
       rotate_left
       ·rw [if_neg c11] at H
        exact absurd H (by simp)
       rw [if_pos c11] at H
       have LMc11 := Zma c11
       clear c11
       obtain ⟨y106, hy106⟩ : ∃ y_ : List Int, y_ = (x3_2 ++ [((rd_L3 l0_6 x10_1).length : Int) % 255]) := ⟨_, rfl⟩
       replace H : (page_laces_raw.l0 k2 y106 l0_6 (l0_6.length : Int) (wrap64 (x10_1 + 1)) a0_0 a0_1 a0_2 a0_3 a0_4 a0_5 l0_6) = some r := by first | (rw [hy106]; with_reducible exact H) | (have H2_ := (Zsa _ _).symm.trans H; rw [hy106]; with_reducible exact H2_) | (have H2_ := (Zsa _ _).symm.trans H; with_reducible exact H2_) | with_reducible exact H | (rw [hy106]; exact H) | exact H
       have Ny106 := Zma hy106
       clear hy106
       have H' := Zma H
       clear H
       obtain ⟨hcz12_0, hcz12_1, hcz12_2, hcz12_3, hcz12_4, hcz12_5, hcz12_6, hfz12_0, hfz12_1, hfz12_2, hfz12_3, hfz12_4, hfz12_5, hfz12_6⟩ := blk7 BK101.out
       go_wp2_with (first | ((with_reducible refine gate_builtin (b := .append) (xs := #[.tmp 35, .tmp 40]) rfl ?_); at_builtin; refine Kd.R_append (Kd.int .u8) (w0 := w) w.heap.size rfl (.tmp 35) (.tmp 40) 28 5 (.int .u8 0) 1 rfl Try.underlying28 info5 rfl (by decide) (by omega) u3 x3_2 (((rd_L3 l0_6 x10_1).length : Int) % 255) [.int .u8 (((rd_L3 l0_6 x10_1).length : Int) % 255)] (fun _ => True) (fun _ => False) rfl rfl ?aP (fun _ hk => hk.elim) ?aF ?aO ?aB ?aS ?aL ?_; (case aP => exact rfl); (case aB => exact bq); (case aF => exact (fun _ _ => trivial)); (case aO => exact (rq HO_3.out)); (case aS => exact (Zfa bq)); (case aL => have := LMc11.out; omega); intro v107 w13 ho hb hg hat; rw [← Ny106.out] at ho; have n0_ := Zma (blk_grown (g := gb101) (o := .cells #[.int .i64 a0_0, .int .i64 a0_1, .bool a0_2, .bool a0_3, .bool a0_4, .bool a0_5, .slice (some ad102) l0_6.length c0_6] 43 (0, 0)) (kq BK101.out) hg (Kd.R_ne HO_3.out BK101.out (by decide))); have n1_ := Zma (hb); have n2_ := Zma (ho); clear BK101 HB HO_3; have BK101 := n0_; have HB := n1_; have HO108 := n2_; clear n0_ n1_ n2_ ho hb hg hat))
       go_roundg k2
       case measure => have := HK1.out; have := HK2.out; omega
       case rel => exact ⟨(y106), (wrap64 (x10_1 + 1)), (by first | rfl | (simp; done) | (simp [*]; done)), H', ⟨by have := HK1.out; have := HK2.out; omega⟩, ⟨rq HO108.out⟩, ⟨kq BK101.out⟩, ⟨bq⟩⟩
      rw [if_neg c10] at H
      have c10b0 : decide (x10_1 < (wrap64 ((l0_6.length : Int) - 1))) = false := Zna c10
      clear c10
      by_cases c14 : a0_5 = true
      ·subst c14
       have H1 : (page_laces_raw.l0 k2 x3_2 l0_6 (l0_6.length : Int) (wrap64 (x10_1 + 1)) a0_0 a0_1 a0_2 a0_3 a0_4 true l0_6) = some r := by rw [if_pos rfl] at H; exact H
       clear H
       have H := H1
       clear H1
       have H' := Zma H
       clear H
       obtain ⟨hcz15_0, hcz15_1, hcz15_2, hcz15_3, hcz15_4, hcz15_5, hcz15_6, hfz15_0, hfz15_1, hfz15_2, hfz15_3, hfz15_4, hfz15_5, hfz15_6⟩ := blk7 BK101.out
       go_wp2
       go_roundg k2
       case measure => have := HK1.out; have := HK2.out; omega
       case rel => exact ⟨(x3_2), (wrap64 (x10_1 + 1)), (by first | rfl | (simp; done) | (simp [*]; done)), H', ⟨by have := HK1.out; have := HK2.out; omega⟩, ⟨rq HO_3.out⟩, ⟨kq BK101.out⟩, ⟨bq⟩⟩
      replace c14 := Bool.eq_false_iff.mpr c14
      subst c14
      have H1 : (if x3_2.length < 140737488355328 then (page_laces_raw.l0 k2 (x3_2 ++ [((rd_L3 l0_6 x10_1).length : Int) % 255]) l0_6 (l0_6.length : Int) (wrap64 (x10_1 + 1)) a0_0 a0_1 a0_2 a0_3 a0_4 false l0_6) else (none)) = some r := by rw [if_neg (show ¬ (false = true) by decide)] at H; exact H
      clear H
      have H := H1
      clear H1
      by_cases c16 : x3_2.length < 140737488355328
      rotate_left
      ·rw [if_neg c16] at H
       exact absurd H (by simp)
      rw [if_pos c16] at H
      have LMc16 := Zma c16
      clear c16
      obtain ⟨y109, hy109⟩ : ∃ y_ : List Int, y_ = (x3_2 ++ [((rd_L3 l0_6 x10_1).length : Int) % 255]) := ⟨_, rfl⟩
      replace H : (page_laces_raw.l0 k2 y109 l0_6 (l0_6.length : Int) (wrap64 (x10_1 + 1)) a0_0 a0_1 a0_2 a0_3 a0_4 false l0_6) = some r := by first | (rw [hy109]; with_reducible exact H) | (have H2_ := (Zsa _ _).symm.trans H; rw [hy109]; with_reducible exact H2_) | (have H2_ := (Zsa _ _).symm.trans H; with_reducible exact H2_) | with_reducible exact H | (rw [hy109]; exact H) | exact H
      have Ny109 := Zma hy109
      clear hy109
      have H' := Zma H
      clear H
      obtain ⟨hcz17_0, hcz17_1, hcz17_2, hcz17_3, hcz17_4, hcz17_5, hcz17_6, hfz17_0, hfz17_1, hfz17_2, hfz17_3, hfz17_4, hfz17_5, hfz17_6⟩ := blk7 BK101.out
      go_wp2_with (first | ((with_reducible refine gate_builtin (b := .append) (xs := #[.tmp 35, .tmp 40]) rfl ?_); at_builtin; refine Kd.R_append (Kd.int .u8) (w0 := w) w.heap.size rfl (.tmp 35) (.tmp 40) 28 5 (.int .u8 0) 1 rfl Try.underlying28 info5 rfl (by decide) (by omega) u3 x3_2 (((rd_L3 l0_6 x10_1).length : Int) % 255) [.int .u8 (((rd_L3 l0_6 x10_1).length : Int) % 255)] (fun _ => True) (fun _ => False) rfl rfl ?aP (fun _ hk => hk.elim) ?aF ?aO ?aB ?aS ?aL ?_; (case aP => exact rfl); (case aB => exact bq); (case aF => exact (fun _ _ => trivial)); (case aO => exact (rq HO_3.out)); (case aS => exact (Zfa bq)); (case aL => have := LMc16.out; omega); intro v110 w18 ho hb hg hat; rw [← Ny109.out] at ho; have n0_ := Zma (blk_grown (g := gb101) (o := .cells #[.int .i64 a0_0, .int .i64 a0_1, .bool a0_2, .bool a0_3, .bool a0_4, .bool false, .slice (some ad102) l0_6.length c0_6] 43 (0, 0)) (kq BK101.out) hg (Kd.R_ne HO_3.out BK101.out (by decide))); have n1_ := Zma (hb); have n2_ := Zma (ho); clear BK101 HB HO_3; have BK101 := n0_; have HB := n1_; have HO111 := n2_; clear n0_ n1_ n2_ ho hb hg hat))
      go_roundg k2
      case measure => have := HK1.out; have := HK2.out; omega
      case rel => exact ⟨(y109), (wrap64 (x10_1 + 1)), (by first | rfl | (simp; done) | (simp [*]; done)), H', ⟨by have := HK1.out; have := HK2.out; omega⟩, ⟨rq HO111.out⟩, ⟨kq BK101.out⟩, ⟨bq⟩⟩
   rw [if_neg c4] at H
   have c4b0 : decide (x10_1 < (l0_6.length : Int)) = false := Zna c4
   clear c4
   obtain rfl := Zgb H
   go_wp2
   go_ret
   exact ⟨_, by first | rfl | (simp [errW_none, errW_some] <;> rfl) | (simp [*, errW_none, errW_some] <;> rfl), rq HO_3.out, bq⟩

def page_laces.f (seq gran : Int) (first last cont more : Bool) (p : List (List Int)) : Option (List Int) := if smallP p then some (lacesL more p) else none
theorem page_laces.of {seq gran : Int} {first last cont more : Bool} {p : List (List Int)} {r : List Int} (h : page_laces.f seq gran first last cont more p = some r) : ∃ k, page_laces_raw.f k seq gran first last cont more p = some r := by
  unfold page_laces.f at h
  split at h
  case isFalse => cases h
  case isTrue hs =>
    injection h with h
    subst h
    refine Ev.rounds ?_
    unfold page_laces_raw.f
    have hL := lacesL_le more p hs.2
    have hn := hs.1
    have inner : ∀ (q n : Nat) (x3 b : List Int) (j : Nat) (R : List Int), j < p.length → n / 255 = q → n ≤ 70000 → n % 255 = b.length % 255 → x3.length + n / 255 ≤ 1000000 →
        Ev (fun k => page_laces_raw.l0 k (x3 ++ (if more = true ∧ p.length = j + 1 then laceO n else laceC n)) p (p.length : Int) ((j + 1 : Nat) : Int) seq gran first last cont more p) R →
        Ev (fun k => page_laces_raw.l1 k x3 (j : Int) b (n : Int) p (p.length : Int) (j : Int) seq gran first last cont more p) R := by
      intro q
      induction q with
      | zero =>
        intro n x3 b j R hj hq hn7 hm hx H
        have h255 : n < 255 := by omega
        rw [laceO_small n h255, laceC_small n h255] at H
        have e1 : wrap64 ((j : Int) + 1) = ((j + 1 : Nat) : Int) := by unfold wrap64; omega
        have e2 : wrap64 ((p.length : Int) - 1) = (p.length : Int) - 1 := by unfold wrap64; omega
        have e3 : ((b.length : Int) % 255) = (n : Int) := by omega
        have hlim : x3.length < 140737488355328 := by omega
        refine Ev.step (fun k => ?_) H
        simp only [page_laces_raw.l1]
        rw [if_neg (by omega), e1, e2, e3]
        by_cases hl : p.length = j + 1
        · rw [if_neg (show ¬ (j : Int) < (p.length : Int) - 1 by omega)]
          cases more with
          | true => rw [if_pos rfl, if_pos ⟨rfl, hl⟩, List.append_nil]
          | false => rw [if_neg (by simp), if_pos hlim, if_neg (fun h => absurd h.1 (by simp))]
        · rw [if_pos (show (j : Int) < (p.length : Int) - 1 by omega), if_pos hlim, if_neg (fun h => hl h.2)]
      | succ q ih =>
        intro n x3 b j R hj hq hn7 hm hx H
        have h255 : 255 ≤ n := by omega
        have e1 : wrap64 ((n : Int) - 255) = ((n - 255 : Nat) : Int) := by unfold wrap64; omega
        have hlim : x3.length < 140737488355328 := by omega
        refine Ev.step (f := fun k => page_laces_raw.l1 k (x3 ++ [255]) (j : Int) b ((n - 255 : Nat) : Int) p (p.length : Int) (j : Int) seq gran first last cont more p) (fun k => ?_) (ih (n - 255) (x3 ++ [255]) b j R hj (by omega) (by omega) (by omega) (by rw [List.length_append, List.length_singleton]; omega) ?_)
        · simp only [page_laces_raw.l1]
          rw [if_pos (by omega), if_pos hlim, e1]
        · rw [laceO_step n h255, laceC_step n h255] at H
          by_cases hc : more = true ∧ p.length = j + 1
          · rw [if_pos hc] at H ⊢
            rw [List.append_assoc]
            exact H
          · rw [if_neg hc] at H ⊢
            rw [List.append_assoc]
            exact H
    have go : ∀ (d j : Nat) (x3 : List Int), j ≤ p.length → p.length - j = d → x3 ++ lacesL more (p.drop j) = lacesL more p → Ev (fun k => page_laces_raw.l0 k x3 p (p.length : Int) (j : Int) seq gran first last cont more p) (lacesL more p) := by
      intro d
      induction d with
      | zero =>
        intro j x3 hj hd hx
        obtain rfl : j = p.length := by omega
        rw [List.drop_length, lacesL, List.append_nil] at hx
        subst hx
        refine Ev.step (f := fun _ => some (lacesL more p)) (fun k => ?_) (Ev.now _)
        simp only [page_laces_raw.l0]
        rw [if_neg (by omega)]
      | succ d ih =>
        intro j x3 hj hd hx
        have hj1 : j < p.length := by omega
        have hb := hs.2 _ (rd_L3_mem p j hj1)
        have hx3 : x3.length ≤ (lacesL more p).length := by rw [← hx, List.length_append]; omega
        rw [lacesL_drop more p j hj1, ← List.append_assoc] at hx
        refine Ev.step (f := fun k => page_laces_raw.l1 k x3 (j : Int) (rd_L3 p (j : Int)) ((rd_L3 p (j : Int)).length : Int) p (p.length : Int) (j : Int) seq gran first last cont more p) (fun k => ?_) (inner _ _ x3 _ j _ hj1 rfl hb rfl (by omega) (ih (j + 1) _ (by omega) (by omega) hx))
        simp only [page_laces_raw.l0]
        rw [if_pos (by omega), if_pos (by omega), if_pos (by omega)]
    exact go _ 0 [] (by omega) rfl (by rw [List.drop_zero, List.nil_append])
theorem page_laces.calls (a0_0 : Int) (a0_1 : Int) (a0_2 : Bool) (a0_3 : Bool) (a0_4 : Bool) (a0_5 : Bool) (A0_6 : Option Addr) (c0_6 : Nat) (l0_6 : List (List Int)) (r : List Int) (w : World) (hr0_6 : Kd.C (Kd.slice 5 (Kd.int .u8)) w A0_6 l0_6.length l0_6) (hc0_6 : l0_6.length ≤ c0_6) (h : page_laces.f a0_0 a0_1 a0_2 a0_3 a0_4 a0_5 l0_6 = some r) :
  Calls Try.prog 63 #[.agg #[.int .i64 a0_0, .int .i64 a0_1, .bool a0_2, .bool a0_3, .bool a0_4, .bool a0_5, .slice A0_6 l0_6.length c0_6]] w fun e w' => ∃ v0_ : Value, e = .returned (v0_) ∧ Kd.R (Kd.int .u8) 5 w' w.heap.size (fun _ => True) v0_ r ∧ Below w.heap.size w w' := by
  obtain ⟨k, hk⟩ := page_laces.of h
  exact page_laces_raw.calls k a0_0 a0_1 a0_2 a0_3 a0_4 a0_5 A0_6 c0_6 l0_6 r w hr0_6 hc0_6 hk

/-! ### page_fits_raw: function 74 -/
def page_fits_raw.l0 : Nat → Int → List (List Int) → Int → Int → Int → Int → Bool → Bool → Bool → Bool → List (List Int) → Option (Bool)
 | 0, _, _, _, _, _, _, _, _, _, _, _ => none
 | k + 1, x3, x7, x8, x9, x102000, x102001, x102002, x102003, x102004, x102005, x102006 => if x9 < x8 then (if 0 ≤ x9 then (if x9 < (x7.length : Int) then (if (wrap64 (x3 + (wrap64 ((wrap64 (((rd_L3 x7 x9).length : Int) / 255)) + 1)))) > 256 then (some false) else (page_fits_raw.l0 k (wrap64 (x3 + (wrap64 ((wrap64 (((rd_L3 x7 x9).length : Int) / 255)) + 1)))) x7 x8 (wrap64 (x9 + 1)) x102000 x102001 x102002 x102003 x102004 x102005 x102006)) else (none)) else (none)) else ((page_laces.f x102000 x102001 x102002 x102003 x102004 x102005 x102006).bind fun t103 => (some (decide ((t103.length : Int) ≤ 255))))
def page_fits_raw.f (k : Nat) (a0_0 : Int) (a0_1 : Int) (a0_2 : Bool) (a0_3 : Bool) (a0_4 : Bool) (a0_5 : Bool) (l0_6 : List (List Int)) : Option (Bool) := page_fits_raw.l0 k 0 l0_6 (l0_6.length : Int) 0 a0_0 a0_1 a0_2 a0_3 a0_4 a0_5 l0_6
set_option maxHeartbeats 8000000 in
set_option maxRecDepth 100000 in
theorem page_fits_raw.calls (k : Nat) (a0_0 : Int) (a0_1 : Int) (a0_2 : Bool) (a0_3 : Bool) (a0_4 : Bool) (a0_5 : Bool) (A0_6 : Option Addr) (c0_6 : Nat) (l0_6 : List (List Int)) (r : Bool) (w : World) (hr0_6 : Kd.C (Kd.slice 5 (Kd.int .u8)) w A0_6 l0_6.length l0_6) (hc0_6 : l0_6.length ≤ c0_6) (h : page_fits_raw.f k a0_0 a0_1 a0_2 a0_3 a0_4 a0_5 l0_6 = some r) :
  Calls Try.prog 74 #[.agg #[.int .i64 a0_0, .int .i64 a0_1, .bool a0_2, .bool a0_3, .bool a0_4, .bool a0_5, .slice A0_6 l0_6.length c0_6]] w fun e w' => e = .returned (.bool r) ∧ Below w.heap.size w w' := by
 have hu43 := Try.underlying43
 have HR0_6 := Zma hr0_6
 have HC0_6 := Zma hc0_6
 clear hr0_6 hc0_6
 have HB := Zma (Below.refl w.heap.size w)
 have H : (page_fits_raw.l0 k 0 l0_6 (l0_6.length : Int) 0 a0_0 a0_1 a0_2 a0_3 a0_4 a0_5 l0_6) = some r := h
 clear h
 have H' := Zma H
 clear H
 go_enter Try.func74, Try.ntmps74
 go_wp2_with (first | ((with_reducible refine gate_dst (N := 1) rfl ?_); refine box_event ?hg (N := 1) ?hd (cs := #[.int .i64 a0_0, .int .i64 a0_1, .bool a0_2, .bool a0_3, .bool a0_4, .bool a0_5, .slice A0_6 l0_6.length c0_6]) (t := 43) ?hr ?_; (case hd => rfl); (case hg => rfl); (case hr => first | (go_simp; done) | (go_simp; rfl)); intro gb101 hg w2 hbox hb; have n0_ := Zma (Zoa bq hb); have n1_ := Zma (hbox); have n2_ := Zma ((by rw [hg]; exact (Zfa bq) : w.heap.size ≤ gb101)); have n3_ := Zma ((by rw [hg]; exact (Zfa bq) : w.heap.size ≤ gb101)); clear HB; have HB := n0_; have BK101 := n1_; have GW101 := n2_; have GE101 := n3_; clear n0_ n1_ n2_ n3_ hb hbox hg; obtain ⟨hcz3_0, hcz3_1, hcz3_2, hcz3_3, hcz3_4, hcz3_5, hcz3_6, hfz3_0, hfz3_1, hfz3_2, hfz3_3, hfz3_4, hfz3_5, hfz3_6⟩ := blk7 BK101.out))
 go_loopg [3, 9] k (fun kq v3 v9 w' => ∃ (x3_1 : Int) (x9_1 : Int), v3 = .int .i64 x3_1 ∧ v9 = .int .i64 x9_1 ∧ Aside0 (page_fits_raw.l0 kq x3_1 l0_6 (l0_6.length : Int) x9_1 a0_0 a0_1 a0_2 a0_3 a0_4 a0_5 l0_6 = some r) ∧ Aside0 (kq ≤ k) ∧ Aside0 (w'.heap[gb101]? = some (.cells #[.int .i64 a0_0, .int .i64 a0_1, .bool a0_2, .bool a0_3, .bool a0_4, .bool a0_5, (.slice A0_6 l0_6.length c0_6)] 43 (0, 0))) ∧ Aside0 (Below w.heap.size w w'))
 case atStart => exact ⟨(0), (0), (by first | rfl | (simp; done) | (simp [*]; done)), (by first | rfl | (simp; done) | (simp [*]; done)), H', ⟨Zra _⟩, ⟨kq BK101.out⟩, ⟨bq⟩⟩
 case round =>
  clear H'
  try clear p2
  try clear hcz3_0
  try clear hcz3_1
  try clear hcz3_2
  try clear hcz3_3
  try clear hcz3_4
  try clear hcz3_5
  try clear hcz3_6
  try clear hfz3_0
  try clear hfz3_1
  try clear hfz3_2
  try clear hfz3_3
  try clear hfz3_4
  try clear hfz3_5
  try clear hfz3_6
  obtain ⟨x3_1, x9_1, rfl, rfl, HA, HK1, BK101, HB⟩ := hrel
  cases gk with
  | zero => exact absurd HA.out (by simp [page_fits_raw.l0])
  | succ k1 =>
   have H := HA.out
   clear HA
   simp only [page_fits_raw.l0] at H
   by_cases c4 : x9_1 < (l0_6.length : Int)
   ·rw [if_pos c4] at H
    have c4b0 : decide (x9_1 < (l0_6.length : Int)) = true := Zn c4
    clear c4
    by_cases c5 : 0 ≤ x9_1
    rotate_left
    ·rw [if_neg c5] at H
     exact absurd H (by simp)
    rw [if_pos c5] at H
    have c5b0 : decide (0 ≤ x9_1) = true := Zn c5
    clear c5
    by_cases c6 : x9_1 < (l0_6.length : Int)
    rotate_left
    ·rw [if_neg c6] at H
     exact absurd H (by simp)
    rw [if_pos c6] at H
    have c6b0 : decide (x9_1 < (l0_6.length : Int)) = true := Zn c6
    clear c6
    by_cases c7 : (wrap64 (x3_1 + (wrap64 ((wrap64 (((rd_L3 l0_6 x9_1).length : Int) / 255)) + 1)))) > 256
    ·rw [if_pos c7] at H
     have c7b0 : decide (256 < (wrap64 (x3_1 + (wrap64 ((wrap64 (((rd_L3 l0_6 x9_1).length : Int) / 255)) + 1))))) = true := Zn c7
     clear c7
     obtain rfl := Zgb H
     have p102 : 0 ≤ (x9_1 : Int) := Zg (by first | (with_reducible assumption) | assumption)
     have q102 : x9_1 < (l0_6.length : Int) := Zg (by first | (with_reducible assumption) | assumption)
     obtain ⟨ad102, A102_0, c102_0, e102, hx102_0, hl102_0, hi102_0⟩ := at_L3 HR0_6.out x9_1 p102 q102
     cases e102
     replace hx102_0 := (HB.out.cell (Zh w _ hx102_0)).trans hx102_0
     have HR102_0 := Zma hi102_0
     have HC102_0 := Zma hl102_0
     clear hi102_0 hl102_0
     replace p102 := Zja p102
     replace q102 := Zja q102
     go_wp2
     go_ret
     exact ⟨by first | rfl | (simp [errW_none, errW_some] <;> rfl) | (simp [*, errW_none, errW_some] <;> rfl), bq⟩
    rw [if_neg c7] at H
    have c7b0 : decide (256 < (wrap64 (x3_1 + (wrap64 ((wrap64 (((rd_L3 l0_6 x9_1).length : Int) / 255)) + 1))))) = false := Zna c7
    clear c7
    have H' := Zma H
    clear H
    have p102 : 0 ≤ (x9_1 : Int) := Zg (by first | (with_reducible assumption) | assumption)
    have q102 : x9_1 < (l0_6.length : Int) := Zg (by first | (with_reducible assumption) | assumption)
    obtain ⟨ad102, A102_0, c102_0, e102, hx102_0, hl102_0, hi102_0⟩ := at_L3 HR0_6.out x9_1 p102 q102
    cases e102
    replace hx102_0 := (HB.out.cell (Zh w _ hx102_0)).trans hx102_0
    have HR102_0 := Zma hi102_0
    have HC102_0 := Zma hl102_0
    clear hi102_0 hl102_0
    replace p102 := Zja p102
    replace q102 := Zja q102
    go_wp2
    go_roundg k1
    case measure => have := HK1.out; omega
    case rel => exact ⟨(wrap64 (x3_1 + (wrap64 ((wrap64 (((rd_L3 l0_6 x9_1).length : Int) / 255)) + 1)))), (wrap64 (x9_1 + 1)), (by first | rfl | (simp; done) | (simp [*]; done)), (by first | rfl | (simp; done) | (simp [*]; done)), H', ⟨by have := HK1.out; omega⟩, ⟨kq BK101.out⟩, ⟨bq⟩⟩
   rw [if_neg c4] at H
   have c4b0 : decide (x9_1 < (l0_6.length : Int)) = false := Zna c4
   clear c4
   replace H := Option.bind_eq_some_iff.mp H
   obtain ⟨t103, A80, H⟩ := H
   replace H : (some (decide ((t103.length : Int) ≤ 255))) = some r := H
   have A8 := Zma A80
   clear A80
   obtain rfl := Zgb H
   obtain ⟨hcz9_0, hcz9_1, hcz9_2, hcz9_3, hcz9_4, hcz9_5, hcz9_6, hfz9_0, hfz9_1, hfz9_2, hfz9_3, hfz9_4, hfz9_5, hfz9_6⟩ := blk7 BK101.out
   go_wp2_with (first | ((with_reducible refine gate_callee (f := 63) rfl ?_); refine goesL_ (some 23) rfl rfl Try.func63 (by kernel_rfl) rfl #[.agg #[.int .i64 a0_0, .int .i64 a0_1, .bool a0_2, .bool a0_3, .bool a0_4, .bool a0_5, .slice A0_6 l0_6.length c0_6]] rfl (by (try simp only [Zdb, Zeb, Zfb]); first | done | rfl | (simp only [Zha, Zga]; rfl)) ?_; (with_reducible refine (page_laces.calls a0_0 a0_1 a0_2 a0_3 a0_4 a0_5 _ _ l0_6 t103 _ ?side1 ?side2 A8.out).mono ?_); (case side1 => exact cq ((Kd.C_below HR0_6.out HB.out))); (case side2 => exact HC0_6.out); rintro e w10 ⟨v104, rfl, ho0, hb⟩; refine ⟨_, rfl, ?_⟩; have n0_ := Zma (Zxa ho0 (Zfa bq)); have n1_ := Zma (Zab (g := gb101) (o := .cells #[.int .i64 a0_0, .int .i64 a0_1, .bool a0_2, .bool a0_3, .bool a0_4, .bool a0_5, .slice A0_6 l0_6.length c0_6] 43 (0, 0)) (kq BK101.out) hb); have n2_ := Zma (Zoa bq hb); clear BK101 HB; have HO105 := n0_; have BK101 := n1_; have HB := n2_; clear n0_ n1_ n2_; (try clear hb); (try clear hb2); (try clear hk); (try clear hi); (try clear ho0); obtain ⟨Ao11, co11, eo11⟩ := Kd.R_slice HO105.out; subst eo11))
   go_ret
   exact ⟨by first | rfl | (simp [errW_none, errW_some] <;> rfl) | (simp [*, errW_none, errW_some] <;> rfl), bq⟩

theorem fits_arith (c q : Nat) (hc : c ≤ 256) (hq : q ≤ 275) : wrap64 ((c : Int) + wrap64 (wrap64 (q : Int) + 1)) = ((c + (q + 1) : Nat) : Int) := by
  have e0A : Aside0 (wrap64 (q : Int) = (q : Int)) := ⟨wid q (by omega)⟩
  have e00A : Aside0 (wrap64 ((q : Int) + 1) = (q : Int) + 1) := ⟨wrap64_of (by omega) (by omega)⟩
  have e000A : Aside0 (wrap64 ((c : Int) + ((q : Int) + 1)) = (c : Int) + ((q : Int) + 1)) := ⟨wrap64_of (by omega) (by omega)⟩
  rw [e0A.out, e00A.out, e000A.out]
  omega
def page_fits.f (seq gran : Int) (first last cont more : Bool) (p : List (List Int)) : Option Bool := if smallP p then some (decide ((lacesL more p).length ≤ 255)) else none
theorem page_fits.of {seq gran : Int} {first last cont more : Bool} {p : List (List Int)} {r : Bool} (h : page_fits.f seq gran first last cont more p = some r) : ∃ k, page_fits_raw.f k seq gran first last cont more p = some r := by
  unfold page_fits.f at h
  split at h
  case isFalse => cases h
  case isTrue hs =>
    injection h with h
    subst h
    refine Ev.rounds ?_
    unfold page_fits_raw.f
    have hn := hs.1
    have hc := cntL_le more p
    have go : ∀ (d j c : Nat), j ≤ p.length → p.length - j = d → c ≤ 256 → c + cntL (p.drop j) = cntL p → Ev (fun k => page_fits_raw.l0 k (c : Int) p (p.length : Int) (j : Int) seq gran first last cont more p) (decide ((lacesL more p).length ≤ 255)) := by
      intro d
      induction d with
      | zero =>
        intro j c hj hd hc8 hx
        obtain rfl : j = p.length := by omega
        refine Ev.step (f := fun _ => some (decide ((lacesL more p).length ≤ 255))) (fun k => ?_) (Ev.now _)
        simp only [page_fits_raw.l0]
        rw [if_neg (by omega), page_laces.f, if_pos hs, Zsa]
        congr 1
        rw [decide_eq_decide]
        omega
      | succ d ih =>
        intro j c hj hd hc8 hx
        have hj1 : j < p.length := by omega
        have hb := hs.2 _ (rd_L3_mem p j hj1)
        rw [drop_cons p j hj1, cntL] at hx
        obtain ⟨q, hq⟩ : ∃ q, (rd_L3 p (j : Int)).length / 255 = q := ⟨_, rfl⟩
        have hq8 : q ≤ 275 := by omega
        have hqi : ((rd_L3 p (j : Int)).length : Int) / 255 = (q : Int) := by omega
        rw [hq] at hx
        have g1 : (j : Int) < (p.length : Int) := by omega
        have g2 : (0 : Int) ≤ (j : Int) := by omega
        have e2A : Aside0 (wrap64 ((j : Int) + 1) = ((j + 1 : Nat) : Int)) := ⟨wsucc j (by omega)⟩
        by_cases h256 : c + (q + 1) > 256
        · have g3 : ((c + (q + 1) : Nat) : Int) > 256 := by omega
          have g4 : ¬ (lacesL more p).length ≤ 255 := by omega
          have e1A : Aside0 (wrap64 ((c : Int) + wrap64 (wrap64 (((rd_L3 p (j : Int)).length : Int) / 255) + 1)) = ((c + (q + 1) : Nat) : Int)) := ⟨by rw [hqi]; exact fits_arith c q hc8 hq8⟩
          refine Ev.step (f := fun _ => some (decide ((lacesL more p).length ≤ 255))) (fun k => ?_) (Ev.now _)
          simp only [page_fits_raw.l0]
          rw [if_pos g1, if_pos g2, if_pos g1, e1A.out, if_pos g3, Zna g4]
        · have g3 : ¬ ((c + (q + 1) : Nat) : Int) > 256 := by omega
          have H := ih (j + 1) (c + (q + 1)) (by omega) (by omega) (by omega) (by omega)
          have e1A : Aside0 (wrap64 ((c : Int) + wrap64 (wrap64 (((rd_L3 p (j : Int)).length : Int) / 255) + 1)) = ((c + (q + 1) : Nat) : Int)) := ⟨by rw [hqi]; exact fits_arith c q hc8 hq8⟩
          refine Ev.step (fun k => ?_) H
          simp only [page_fits_raw.l0]
          rw [if_pos g1, if_pos g2, if_pos g1, e1A.out, if_neg g3, e2A.out]
    exact go _ 0 0 (by omega) rfl (by omega) (by rw [List.drop_zero]; omega)
theorem page_fits.calls (a0_0 : Int) (a0_1 : Int) (a0_2 : Bool) (a0_3 : Bool) (a0_4 : Bool) (a0_5 : Bool) (A0_6 : Option Addr) (c0_6 : Nat) (l0_6 : List (List Int)) (r : Bool) (w : World) (hr0_6 : Kd.C (Kd.slice 5 (Kd.int .u8)) w A0_6 l0_6.length l0_6) (hc0_6 : l0_6.length ≤ c0_6) (h : page_fits.f a0_0 a0_1 a0_2 a0_3 a0_4 a0_5 l0_6 = some r) :
  Calls Try.prog 74 #[.agg #[.int .i64 a0_0, .int .i64 a0_1, .bool a0_2, .bool a0_3, .bool a0_4, .bool a0_5, .slice A0_6 l0_6.length c0_6]] w fun e w' => e = .returned (.bool r) ∧ Below w.heap.size w w' := by
  obtain ⟨k, hk⟩ := page_fits.of h
  exact page_fits_raw.calls k a0_0 a0_1 a0_2 a0_3 a0_4 a0_5 A0_6 c0_6 l0_6 r w hr0_6 hc0_6 hk

/-! ### page_Right_raw: function 54 -/
def page_Right_raw.j0 : Nat → Bool → Int → Int → Bool → Bool → Bool → Bool → List (List Int) → Option (Bool)
 | 0, _, _, _, _, _, _, _, _ => none
 | k + 1, x26, x102000, x102001, x102002, x102003, x102004, x102005, x102006 => if x26 = true then (some false) else (if x102005 = true then (if (x102006.length : Int) = 0 then (some false) else (if 0 ≤ (wrap64 ((x102006.length : Int) - 1)) then (if (wrap64 ((x102006.length : Int) - 1)) < (x102006.length : Int) then (if ((rd_L3 x102006 (wrap64 ((x102006.length : Int) - 1))).length : Int) > 0 then (some ((((rd_L3 x102006 (wrap64 ((x102006.length : Int) - 1))).length : Int) % 255) == 0)) else (some false)) else (none)) else (none))) else (some true))
def page_Right_raw.f (k : Nat) (a0_0 : Int) (a0_1 : Int) (a0_2 : Bool) (a0_3 : Bool) (a0_4 : Bool) (a0_5 : Bool) (l0_6 : List (List Int)) : Option (Bool) := if a0_0 < 0 then (page_Right_raw.j0 k true a0_0 a0_1 a0_2 a0_3 a0_4 a0_5 l0_6) else (if a0_0 > 4294967295 then (page_Right_raw.j0 k true a0_0 a0_1 a0_2 a0_3 a0_4 a0_5 l0_6) else (if a0_1 < 0 then (page_Right_raw.j0 k true a0_0 a0_1 a0_2 a0_3 a0_4 a0_5 l0_6) else (if a0_1 > 4611686018427387904 then (page_Right_raw.j0 k true a0_0 a0_1 a0_2 a0_3 a0_4 a0_5 l0_6) else ((page_fits.f a0_0 a0_1 a0_2 a0_3 a0_4 a0_5 l0_6).bind fun t102 => (page_Right_raw.j0 k (!t102) a0_0 a0_1 a0_2 a0_3 a0_4 a0_5 l0_6)))))
set_option maxHeartbeats 8000000 in
set_option maxRecDepth 100000 in
theorem page_Right_raw.calls (k : Nat) (a0_0 : Int) (a0_1 : Int) (a0_2 : Bool) (a0_3 : Bool) (a0_4 : Bool) (a0_5 : Bool) (A0_6 : Option Addr) (c0_6 : Nat) (l0_6 : List (List Int)) (r : Bool) (w : World) (hr0_6 : Kd.C (Kd.slice 5 (Kd.int .u8)) w A0_6 l0_6.length l0_6) (hc0_6 : l0_6.length ≤ c0_6) (h : page_Right_raw.f k a0_0 a0_1 a0_2 a0_3 a0_4 a0_5 l0_6 = some r) :
  Calls Try.prog 54 #[.agg #[.int .i64 a0_0, .int .i64 a0_1, .bool a0_2, .bool a0_3, .bool a0_4, .bool a0_5, .slice A0_6 l0_6.length c0_6]] w fun e w' => e = .returned (.bool r) ∧ Below w.heap.size w w' := by
 have hu43 := Try.underlying43
 have HR0_6 := Zma hr0_6
 have HC0_6 := Zma hc0_6
 clear hr0_6 hc0_6
 have HB := Zma (Below.refl w.heap.size w)
 have H : (if a0_0 < 0 then (page_Right_raw.j0 k true a0_0 a0_1 a0_2 a0_3 a0_4 a0_5 l0_6) else (if a0_0 > 4294967295 then (page_Right_raw.j0 k true a0_0 a0_1 a0_2 a0_3 a0_4 a0_5 l0_6) else (if a0_1 < 0 then (page_Right_raw.j0 k true a0_0 a0_1 a0_2 a0_3 a0_4 a0_5 l0_6) else (if a0_1 > 4611686018427387904 then (page_Right_raw.j0 k true a0_0 a0_1 a0_2 a0_3 a0_4 a0_5 l0_6) else ((page_fits.f a0_0 a0_1 a0_2 a0_3 a0_4 a0_5 l0_6).bind fun t102 => (page_Right_raw.j0 k (!t102) a0_0 a0_1 a0_2 a0_3 a0_4 a0_5 l0_6)))))) = some r := h
 clear h
 have HC2 := Zma H
 clear H
 go_enter Try.func54, Try.ntmps54
 go_upto_region 1 with (first | ((with_reducible refine gate_dst (N := 1) rfl ?_); refine box_event ?hg (N := 1) ?hd (cs := #[.int .i64 a0_0, .int .i64 a0_1, .bool a0_2, .bool a0_3, .bool a0_4, .bool a0_5, .slice A0_6 l0_6.length c0_6]) (t := 43) ?hr ?_; (case hd => rfl); (case hg => rfl); (case hr => first | (go_simp; done) | (go_simp; rfl)); intro gb101 hg w3 hbox hb; have n0_ := Zma (Zoa bq hb); have n1_ := Zma (hbox); have n2_ := Zma ((by rw [hg]; exact (Zfa bq) : w.heap.size ≤ gb101)); have n3_ := Zma ((by rw [hg]; exact (Zfa bq) : w.heap.size ≤ gb101)); clear HB; have HB := n0_; have BK101 := n1_; have GW101 := n2_; have GE101 := n3_; clear n0_ n1_ n2_ n3_ hb hbox hg))
 (try simp only [Act.put, Za, Zb, Zc])
 go_cut [26] (fun v26 wc => ∃ (kq : Nat) (x26_1 : Bool), v26 = .bool x26_1 ∧ Aside0 (page_Right_raw.j0 kq x26_1 a0_0 a0_1 a0_2 a0_3 a0_4 a0_5 l0_6 = some r) ∧ Aside0 (kq ≤ k) ∧ Aside0 (wc.heap[gb101]? = some (.cells #[.int .i64 a0_0, .int .i64 a0_1, .bool a0_2, .bool a0_3, .bool a0_4, .bool a0_5, (.slice A0_6 l0_6.length c0_6)] 43 (0, 0))) ∧ Aside0 (Below w.heap.size w wc))
 case first =>
  have H := HC2.out
  clear HC2
  by_cases c4 : a0_0 < 0
  ·rw [if_pos c4] at H
   have c4b0 : decide (a0_0 < 0) = true := Zn c4
   clear c4
   (first | rw [c4b0] | (simp only [i64_w, i32_w]; rw [c4b0]) | skip)
   have H' := Zma H
   clear H
   obtain ⟨hcz5_0, hcz5_1, hcz5_2, hcz5_3, hcz5_4, hcz5_5, hcz5_6, hfz5_0, hfz5_1, hfz5_2, hfz5_3, hfz5_4, hfz5_5, hfz5_6⟩ := blk7 BK101.out
   go_wp2
   go_meet
   case rel => exact ⟨_, (true), (by first | rfl | (simp; done) | (simp [*]; done)), H', ⟨by first | omega | exact Zra _⟩, ⟨kq BK101.out⟩, ⟨bq⟩⟩
  rw [if_neg c4] at H
  have c4b0 : decide (a0_0 < 0) = false := Zna c4
  clear c4
  (first | rw [c4b0] | (simp only [i64_w, i32_w]; rw [c4b0]) | skip)
  by_cases c6 : a0_0 > 4294967295
  ·rw [if_pos c6] at H
   have c6b0 : decide (4294967295 < a0_0) = true := Zn c6
   clear c6
   have H' := Zma H
   clear H
   obtain ⟨hcz7_0, hcz7_1, hcz7_2, hcz7_3, hcz7_4, hcz7_5, hcz7_6, hfz7_0, hfz7_1, hfz7_2, hfz7_3, hfz7_4, hfz7_5, hfz7_6⟩ := blk7 BK101.out
   go_wp2
   go_meet
   case rel => exact ⟨_, (true), (by first | rfl | (simp; done) | (simp [*]; done)), H', ⟨by first | omega | exact Zra _⟩, ⟨kq BK101.out⟩, ⟨bq⟩⟩
  rw [if_neg c6] at H
  have c6b0 : decide (4294967295 < a0_0) = false := Zna c6
  clear c6
  by_cases c8 : a0_1 < 0
  ·rw [if_pos c8] at H
   have c8b0 : decide (a0_1 < 0) = true := Zn c8
   clear c8
   have H' := Zma H
   clear H
   obtain ⟨hcz9_0, hcz9_1, hcz9_2, hcz9_3, hcz9_4, hcz9_5, hcz9_6, hfz9_0, hfz9_1, hfz9_2, hfz9_3, hfz9_4, hfz9_5, hfz9_6⟩ := blk7 BK101.out
   go_wp2
   go_meet
   case rel => exact ⟨_, (true), (by first | rfl | (simp; done) | (simp [*]; done)), H', ⟨by first | omega | exact Zra _⟩, ⟨kq BK101.out⟩, ⟨bq⟩⟩
  rw [if_neg c8] at H
  have c8b0 : decide (a0_1 < 0) = false := Zna c8
  clear c8
  by_cases c10 : a0_1 > 4611686018427387904
  ·rw [if_pos c10] at H
   have c10b0 : decide (4611686018427387904 < a0_1) = true := Zn c10
   clear c10
   have H' := Zma H
   clear H
   obtain ⟨hcz11_0, hcz11_1, hcz11_2, hcz11_3, hcz11_4, hcz11_5, hcz11_6, hfz11_0, hfz11_1, hfz11_2, hfz11_3, hfz11_4, hfz11_5, hfz11_6⟩ := blk7 BK101.out
   go_wp2
   go_meet
   case rel => exact ⟨_, (true), (by first | rfl | (simp; done) | (simp [*]; done)), H', ⟨by first | omega | exact Zra _⟩, ⟨kq BK101.out⟩, ⟨bq⟩⟩
  rw [if_neg c10] at H
  have c10b0 : decide (4611686018427387904 < a0_1) = false := Zna c10
  clear c10
  replace H := Option.bind_eq_some_iff.mp H
  obtain ⟨t102, A120, H⟩ := H
  replace H : (page_Right_raw.j0 k (!t102) a0_0 a0_1 a0_2 a0_3 a0_4 a0_5 l0_6) = some r := H
  have A12 := Zma A120
  clear A120
  have H' := Zma H
  clear H
  obtain ⟨hcz13_0, hcz13_1, hcz13_2, hcz13_3, hcz13_4, hcz13_5, hcz13_6, hfz13_0, hfz13_1, hfz13_2, hfz13_3, hfz13_4, hfz13_5, hfz13_6⟩ := blk7 BK101.out
  go_wp2_with (first | (go_at_call 74; (with_reducible refine (page_fits.calls a0_0 a0_1 a0_2 a0_3 a0_4 a0_5 _ _ l0_6 t102 _ ?side1 ?side2 A12.out).mono ?_); (case side1 => exact cq ((Kd.C_below HR0_6.out HB.out))); (case side2 => exact HC0_6.out); rintro e w14 ⟨rfl, hb⟩; have n0_ := Zma (Zab (g := gb101) (o := .cells #[.int .i64 a0_0, .int .i64 a0_1, .bool a0_2, .bool a0_3, .bool a0_4, .bool a0_5, .slice A0_6 l0_6.length c0_6] 43 (0, 0)) (kq BK101.out) hb); have n1_ := Zma (Zoa bq hb); clear BK101 HB; have BK101 := n0_; have HB := n1_; clear n0_ n1_; (try clear hb); (try clear hb2); (try clear hk); (try clear hi)))
  go_meet
  case rel => exact ⟨_, (!t102), (by first | rfl | (simp; done) | (simp [*]; done)), H', ⟨by first | omega | exact Zra _⟩, ⟨kq BK101.out⟩, ⟨bq⟩⟩
 case rest =>
  clear HC2
  try clear c1
  try clear p2
  try clear c4
  try clear c4b0
  try clear c5
  try clear c6
  try clear c6b0
  try clear c8
  try clear c8b0
  try clear c10
  try clear c10b0
  try clear hcz11_0
  try clear hcz11_1
  try clear hcz11_2
  try clear hcz11_3
  try clear hcz11_4
  try clear hcz11_5
  try clear hcz11_6
  try clear hcz13_0
  try clear hcz13_1
  try clear hcz13_2
  try clear hcz13_3
  try clear hcz13_4
  try clear hcz13_5
  try clear hcz13_6
  try clear hcz5_0
  try clear hcz5_1
  try clear hcz5_2
  try clear hcz5_3
  try clear hcz5_4
  try clear hcz5_5
  try clear hcz5_6
  try clear hcz7_0
  try clear hcz7_1
  try clear hcz7_2
  try clear hcz7_3
  try clear hcz7_4
  try clear hcz7_5
  try clear hcz7_6
  try clear hcz9_0
  try clear hcz9_1
  try clear hcz9_2
  try clear hcz9_3
  try clear hcz9_4
  try clear hcz9_5
  try clear hcz9_6
  try clear hfz11_0
  try clear hfz11_1
  try clear hfz11_2
  try clear hfz11_3
  try clear hfz11_4
  try clear hfz11_5
  try clear hfz11_6
  try clear hfz13_0
  try clear hfz13_1
  try clear hfz13_2
  try clear hfz13_3
  try clear hfz13_4
  try clear hfz13_5
  try clear hfz13_6
  try clear hfz5_0
  try clear hfz5_1
  try clear hfz5_2
  try clear hfz5_3
  try clear hfz5_4
  try clear hfz5_5
  try clear hfz5_6
  try clear hfz7_0
  try clear hfz7_1
  try clear hfz7_2
  try clear hfz7_3
  try clear hfz7_4
  try clear hfz7_5
  try clear hfz7_6
  try clear hfz9_0
  try clear hfz9_1
  try clear hfz9_2
  try clear hfz9_3
  try clear hfz9_4
  try clear hfz9_5
  try clear hfz9_6
  obtain ⟨kq, x26_1, rfl, HA, HJ1, BK101, HB⟩ := hcut
  cases kq with
  | zero => exact absurd HA.out (by simp [page_Right_raw.j0])
  | succ kj1 =>
   have H := HA.out
   clear HA
   simp only [page_Right_raw.j0] at H
   by_cases c15 : x26_1 = true
   ·subst c15
    have H1 : (some false) = some r := by rw [if_pos rfl] at H; exact H
    clear H
    have H := H1
    clear H1
    obtain rfl := Zgb H
    go_wp2
    go_ret
    exact ⟨by first | rfl | (simp [errW_none, errW_some] <;> rfl) | (simp [*, errW_none, errW_some] <;> rfl), bq⟩
   replace c15 := Bool.eq_false_iff.mpr c15
   subst c15
   have H1 : (if a0_5 = true then (if (l0_6.length : Int) = 0 then (some false) else (if 0 ≤ (wrap64 ((l0_6.length : Int) - 1)) then (if (wrap64 ((l0_6.length : Int) - 1)) < (l0_6.length : Int) then (if ((rd_L3 l0_6 (wrap64 ((l0_6.length : Int) - 1))).length : Int) > 0 then (some ((((rd_L3 l0_6 (wrap64 ((l0_6.length : Int) - 1))).length : Int) % 255) == 0)) else (some false)) else (none)) else (none))) else (some true)) = some r := by rw [if_neg (show ¬ (false = true) by decide)] at H; exact H
   clear H
   have H := H1
   clear H1
   by_cases c16 : a0_5 = true
   ·subst c16
    have H1 : (if (l0_6.length : Int) = 0 then (some false) else (if 0 ≤ (wrap64 ((l0_6.length : Int) - 1)) then (if (wrap64 ((l0_6.length : Int) - 1)) < (l0_6.length : Int) then (if ((rd_L3 l0_6 (wrap64 ((l0_6.length : Int) - 1))).length : Int) > 0 then (some ((((rd_L3 l0_6 (wrap64 ((l0_6.length : Int) - 1))).length : Int) % 255) == 0)) else (some false)) else (none)) else (none))) = some r := by rw [if_pos rfl] at H; exact H
    clear H
    have H := H1
    clear H1
    by_cases c17 : (l0_6.length : Int) = 0
    ·rw [if_pos c17] at H
     have c17b0 : ((l0_6.length : Int) == 0) = true := beq_iff_eq.mpr c17
     have c17b1 : ((l0_6.length : Int) != 0) = false := bne_eq_false_iff_eq.mpr c17
     clear c17
     obtain rfl := Zgb H
     obtain ⟨hcz18_0, hcz18_1, hcz18_2, hcz18_3, hcz18_4, hcz18_5, hcz18_6, hfz18_0, hfz18_1, hfz18_2, hfz18_3, hfz18_4, hfz18_5, hfz18_6⟩ := blk7 BK101.out
     go_wp2
     go_ret
     exact ⟨by first | rfl | (simp [errW_none, errW_some] <;> rfl) | (simp [*, errW_none, errW_some] <;> rfl), bq⟩
    rw [if_neg c17] at H
    have c17b0 : ((l0_6.length : Int) == 0) = false := beq_eq_false_iff_ne.mpr c17
    have c17b1 : ((l0_6.length : Int) != 0) = true := bne_iff_ne.mpr c17
    have c17b2 : ¬ (l0_6 = []) := fun h_ => c17 (by rw [h_]; rfl)
    obtain ⟨ji19, hji19⟩ : ∃ j_ : Int, (wrap64 ((l0_6.length : Int) - 1)) = j_ := ⟨_, rfl⟩
    replace H : (if 0 ≤ (ji19) then (if (ji19) < (l0_6.length : Int) then (if ((rd_L3 l0_6 (ji19)).length : Int) > 0 then (some ((((rd_L3 l0_6 (ji19)).length : Int) % 255) == 0)) else (some false)) else (none)) else (none)) = some r := by first | (rw [hji19] at H; exact H) | (simp only [hji19] at H ⊢; exact H)
    have hji19w : (IntKind.i64.wrap ((l0_6.length : Int) - 1)) = ji19 := (i64_w _).trans hji19
    by_cases c20 : 0 ≤ (ji19)
    rotate_left
    ·rw [if_neg c20] at H
     exact absurd H (by simp)
    rw [if_pos c20] at H
    have c20b0 : decide (0 ≤ (ji19)) = true := Zn c20
    clear c20
    by_cases c21 : (ji19) < (l0_6.length : Int)
    rotate_left
    ·rw [if_neg c21] at H
     exact absurd H (by simp)
    rw [if_pos c21] at H
    have c21b0 : decide ((ji19) < (l0_6.length : Int)) = true := Zn c21
    clear c21
    by_cases c22 : ((rd_L3 l0_6 (ji19)).length : Int) > 0
    ·rw [if_pos c22] at H
     have c22b0 : decide (0 < ((rd_L3 l0_6 (ji19)).length : Int)) = true := Zn c22
     have c22b1 : decide (0 < (rd_L3 l0_6 (ji19)).length) = true := Zn (by omega)
     clear c22
     obtain rfl := Zgb H
     obtain ⟨hcz23_0, hcz23_1, hcz23_2, hcz23_3, hcz23_4, hcz23_5, hcz23_6, hfz23_0, hfz23_1, hfz23_2, hfz23_3, hfz23_4, hfz23_5, hfz23_6⟩ := blk7 BK101.out
     have p103 : 0 ≤ ((ji19) : Int) := Zg (by first | (with_reducible assumption) | assumption)
     have q103 : (ji19) < (l0_6.length : Int) := Zg (by first | (with_reducible assumption) | assumption)
     obtain ⟨ad103, A103_0, c103_0, e103, hx103_0, hl103_0, hi103_0⟩ := at_L3 HR0_6.out (ji19) p103 q103
     cases e103
     replace hx103_0 := (HB.out.cell (Zh w _ hx103_0)).trans hx103_0
     have HR103_0 := Zma hi103_0
     have HC103_0 := Zma hl103_0
     clear hi103_0 hl103_0
     replace p103 := Zja p103
     replace q103 := Zja q103
     go_wp2
     go_ret
     exact ⟨by first | rfl | (simp [errW_none, errW_some] <;> rfl) | (simp only [← hji19]; first | rfl | (simp [errW_none, errW_some] <;> rfl)) | (simp [*, errW_none, errW_some] <;> rfl), bq⟩
    rw [if_neg c22] at H
    have c22b0 : decide (0 < ((rd_L3 l0_6 (ji19)).length : Int)) = false := Zna c22
    have c22b1 : decide (0 < (rd_L3 l0_6 (ji19)).length) = false := Zna (by omega)
    clear c22
    obtain rfl := Zgb H
    obtain ⟨hcz24_0, hcz24_1, hcz24_2, hcz24_3, hcz24_4, hcz24_5, hcz24_6, hfz24_0, hfz24_1, hfz24_2, hfz24_3, hfz24_4, hfz24_5, hfz24_6⟩ := blk7 BK101.out
    have p103 : 0 ≤ ((ji19) : Int) := Zg (by first | (with_reducible assumption) | assumption)
    have q103 : (ji19) < (l0_6.length : Int) := Zg (by first | (with_reducible assumption) | assumption)
    obtain ⟨ad103, A103_0, c103_0, e103, hx103_0, hl103_0, hi103_0⟩ := at_L3 HR0_6.out (ji19) p103 q103
    cases e103
    replace hx103_0 := (HB.out.cell (Zh w _ hx103_0)).trans hx103_0
    have HR103_0 := Zma hi103_0
    have HC103_0 := Zma hl103_0
    clear hi103_0 hl103_0
    replace p103 := Zja p103
    replace q103 := Zja q103
    go_wp2
    go_ret
    exact ⟨by first | rfl | (simp [errW_none, errW_some] <;> rfl) | (simp only [← hji19]; first | rfl | (simp [errW_none, errW_some] <;> rfl)) | (simp [*, errW_none, errW_some] <;> rfl), bq⟩
   replace c16 := Bool.eq_false_iff.mpr c16
   subst c16
   have H1 : (some true) = some r := by rw [if_neg (show ¬ (false = true) by decide)] at H; exact H
   clear H
   have H := H1
   clear H1
   obtain rfl := Zgb H
   obtain ⟨hcz25_0, hcz25_1, hcz25_2, hcz25_3, hcz25_4, hcz25_5, hcz25_6, hfz25_0, hfz25_1, hfz25_2, hfz25_3, hfz25_4, hfz25_5, hfz25_6⟩ := blk7 BK101.out
   go_wp2
   go_ret
   exact ⟨by first | rfl | (simp [errW_none, errW_some] <;> rfl) | (simp [*, errW_none, errW_some] <;> rfl), bq⟩

def page_Right.f (seq gran : Int) (first last cont more : Bool) (p : List (List Int)) : Option Bool := if smallP p then some (pageRight seq gran more p) else none
theorem page_Right.of {seq gran : Int} {first last cont more : Bool} {p : List (List Int)} {r : Bool} (h : page_Right.f seq gran first last cont more p = some r) : ∃ k, page_Right_raw.f k seq gran first last cont more p = some r := by
  unfold page_Right.f at h
  split at h
  case isFalse => cases h
  case isTrue hs =>
    injection h with h
    subst h
    refine ⟨1, ?_⟩
    have hn := hs.1
    have hT : page_Right_raw.j0 1 true seq gran first last cont more p = some false := rfl
    unfold page_Right_raw.f
    have no : ¬ (pageRight seq gran more p = true) → some false = some (pageRight seq gran more p) := fun h => by rw [Bool.eq_false_iff.mpr h]
    by_cases h1 : seq < 0
    · rw [if_pos h1, hT]; exact no (fun h => by have := (pageRight_iff ..).mp h; omega)
    · rw [if_neg h1]
      by_cases h2 : seq > 4294967295
      · rw [if_pos h2, hT]; exact no (fun h => by have := (pageRight_iff ..).mp h; omega)
      · rw [if_neg h2]
        by_cases h3 : gran < 0
        · rw [if_pos h3, hT]; exact no (fun h => by have := (pageRight_iff ..).mp h; omega)
        · rw [if_neg h3]
          by_cases h4 : gran > 4611686018427387904
          · rw [if_pos h4, hT]; exact no (fun h => by have := (pageRight_iff ..).mp h; omega)
          · rw [if_neg h4, page_fits.f, if_pos hs, Zsa]
            by_cases h5 : (lacesL more p).length ≤ 255
            · rw [Zn h5]
              simp only [page_Right_raw.j0, Bool.not_true]
              rw [if_neg (by simp)]
              cases more with
              | false =>
                rw [if_neg (by simp)]
                congr 1
                symm
                exact (pageRight_iff ..).mpr ⟨by omega, by omega, by omega, by omega, h5, fun h => absurd h (by simp)⟩
              | true =>
                rw [if_pos rfl]
                by_cases h6 : (p.length : Int) = 0
                · rw [if_pos h6]; exact no (fun h => by have := ((pageRight_iff ..).mp h).2.2.2.2.2 rfl; omega)
                · have e2 : wrap64 ((p.length : Int) - 1) = (p.length : Int) - 1 := by unfold wrap64; omega
                  rw [if_neg h6, e2, if_pos (by omega), if_pos (by omega)]
                  by_cases h7 : ((rd_L3 p ((p.length : Int) - 1)).length : Int) > 0
                  · rw [if_pos h7]
                    congr 1
                    rw [Bool.eq_iff_iff, pageRight_iff, beq_iff_eq]
                    unfold lastL
                    constructor
                    · intro h8
                      exact ⟨by omega, by omega, by omega, by omega, h5, fun _ => ⟨by omega, by omega, by omega⟩⟩
                    · intro h8
                      have := (h8.2.2.2.2.2 rfl).2.2
                      omega
                  · rw [if_neg h7]; exact no (fun h => by have := (((pageRight_iff ..).mp h).2.2.2.2.2 rfl).2.1; unfold lastL at this; omega)
            · rw [Zna h5]
              exact (show some false = _ from no (fun h => h5 ((pageRight_iff ..).mp h).2.2.2.2.1))
theorem page_Right.calls (a0_0 : Int) (a0_1 : Int) (a0_2 : Bool) (a0_3 : Bool) (a0_4 : Bool) (a0_5 : Bool) (A0_6 : Option Addr) (c0_6 : Nat) (l0_6 : List (List Int)) (r : Bool) (w : World) (hr0_6 : Kd.C (Kd.slice 5 (Kd.int .u8)) w A0_6 l0_6.length l0_6) (hc0_6 : l0_6.length ≤ c0_6) (h : page_Right.f a0_0 a0_1 a0_2 a0_3 a0_4 a0_5 l0_6 = some r) :
  Calls Try.prog 54 #[.agg #[.int .i64 a0_0, .int .i64 a0_1, .bool a0_2, .bool a0_3, .bool a0_4, .bool a0_5, .slice A0_6 l0_6.length c0_6]] w fun e w' => e = .returned (.bool r) ∧ Below w.heap.size w w' := by
  obtain ⟨k, hk⟩ := page_Right.of h
  exact page_Right_raw.calls k a0_0 a0_1 a0_2 a0_3 a0_4 a0_5 A0_6 c0_6 l0_6 r w hr0_6 hc0_6 hk

end Go.Proofs.Yteoclecadpapfaa.G
