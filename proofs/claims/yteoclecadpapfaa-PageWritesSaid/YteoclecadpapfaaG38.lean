/- What a call of psaltery/page.Join does, told by a plain Lean function of its arguments. Written by a program for this claim. -/
import Derived.Test.YteoclecadpapfaaG0
import Derived.Test.YteoclecadpapfaaG54
import Derived.Test.YteoclecadpapfaaM13
import Derived.Test.YteoclecadpapfaaM24
namespace Go.Proofs.Yteoclecadpapfaa.G
open Go.RowKit Go.Proofs.YteoclecadpapfaaW.PrintWords Go.Proofs.YteoclecadpapfaaW.PrintLast Go.Proofs.YteoclecadpapfaaW.PrintMore
attribute [local go_sem] max2_int min2_int max_two min_two max_three min_three max_four min_four
set_option linter.unusedVariables false
set_option linter.unusedSimpArgs false

/-! ### page_Join_raw: function 38 -/
mutual
def page_Join_raw.l0 : Nat → List (S43) → List (List Int) → Bool → List (S43) → Int → Int → Option ((List (List Int)) × Int)
 | 0, _, _, _, _, _, _ => none
 | k + 1, x0, x4, x5, x11, x12, x13 => if x13 < x12 then (if 0 ≤ x13 then (if x13 < (x11.length : Int) then ((page_Right.f ((rd_T43 x11 x13).f0) ((rd_T43 x11 x13).f1) ((rd_T43 x11 x13).f2) ((rd_T43 x11 x13).f3) ((rd_T43 x11 x13).f4) ((rd_T43 x11 x13).f5) ((rd_T43 x11 x13).f6)).bind fun t103 => (if t103 = true then (if (((rd_T43 x11 x13).f4) != x5) = true then (page_Join_raw.j1 k x0 x4 x11 x12 x13 true ((rd_T43 x11 x13).f0) ((rd_T43 x11 x13).f1) ((rd_T43 x11 x13).f2) ((rd_T43 x11 x13).f3) ((rd_T43 x11 x13).f4) ((rd_T43 x11 x13).f5) ((rd_T43 x11 x13).f6)) else (if x13 > 0 then (if 0 ≤ (wrap64 (x13 - 1)) then (if (wrap64 (x13 - 1)) < (x0.length : Int) then (if ((rd_T43 x11 x13).f0) = (wrap64 (((rd_T43 x0 (wrap64 (x13 - 1))).f0) + 1)) then (if (rd_T43 x11 x13).f4 = true then (page_Join_raw.j1 k x0 x4 x11 x12 x13 ((((rd_T43 x11 x13).f6).length : Int) == 0) ((rd_T43 x11 x13).f0) ((rd_T43 x11 x13).f1) ((rd_T43 x11 x13).f2) ((rd_T43 x11 x13).f3) ((rd_T43 x11 x13).f4) ((rd_T43 x11 x13).f5) ((rd_T43 x11 x13).f6)) else (page_Join_raw.j1 k x0 x4 x11 x12 x13 false ((rd_T43 x11 x13).f0) ((rd_T43 x11 x13).f1) ((rd_T43 x11 x13).f2) ((rd_T43 x11 x13).f3) ((rd_T43 x11 x13).f4) ((rd_T43 x11 x13).f5) ((rd_T43 x11 x13).f6))) else (page_Join_raw.j1 k x0 x4 x11 x12 x13 true ((rd_T43 x11 x13).f0) ((rd_T43 x11 x13).f1) ((rd_T43 x11 x13).f2) ((rd_T43 x11 x13).f3) ((rd_T43 x11 x13).f4) ((rd_T43 x11 x13).f5) ((rd_T43 x11 x13).f6))) else (none)) else (none)) else (if (rd_T43 x11 x13).f4 = true then (page_Join_raw.j1 k x0 x4 x11 x12 x13 ((((rd_T43 x11 x13).f6).length : Int) == 0) ((rd_T43 x11 x13).f0) ((rd_T43 x11 x13).f1) ((rd_T43 x11 x13).f2) ((rd_T43 x11 x13).f3) ((rd_T43 x11 x13).f4) ((rd_T43 x11 x13).f5) ((rd_T43 x11 x13).f6)) else (page_Join_raw.j1 k x0 x4 x11 x12 x13 false ((rd_T43 x11 x13).f0) ((rd_T43 x11 x13).f1) ((rd_T43 x11 x13).f2) ((rd_T43 x11 x13).f3) ((rd_T43 x11 x13).f4) ((rd_T43 x11 x13).f5) ((rd_T43 x11 x13).f6))))) else (some (([] : List (List Int)), 1)))) else (none)) else (none)) else (if x5 = true then (some (([] : List (List Int)), 7)) else (some (x4, 0)))
def page_Join_raw.j1 : Nat → List (S43) → List (List Int) → List (S43) → Int → Int → Bool → Int → Int → Bool → Bool → Bool → Bool → List (List Int) → Option ((List (List Int)) × Int)
 | 0, _, _, _, _, _, _, _, _, _, _, _, _, _ => none
 | k + 1, x0, x4, x11, x12, x13, x50, x103000, x103001, x103002, x103003, x103004, x103005, x103006 => if x50 = true then (some (([] : List (List Int)), 7)) else (page_Join_raw.l1 k x0 x4 x11 x12 x13 x103006 (x103006.length : Int) 0 x103000 x103001 x103002 x103003 x103004 x103005 x103006)
def page_Join_raw.l1 : Nat → List (S43) → List (List Int) → List (S43) → Int → Int → List (List Int) → Int → Int → Int → Int → Bool → Bool → Bool → Bool → List (List Int) → Option ((List (List Int)) × Int)
 | 0, _, _, _, _, _, _, _, _, _, _, _, _, _, _, _ => none
 | k + 1, x0, x4, x11, x12, x13, x52, x53, x54, x103000, x103001, x103002, x103003, x103004, x103005, x103006 => if x54 < x53 then (if 0 ≤ x54 then (if x54 < (x52.length : Int) then (if x54 = 0 then (if x103004 = true then (if 0 ≤ (wrap64 ((x4.length : Int) - 1)) then (if (wrap64 ((x4.length : Int) - 1)) < (x4.length : Int) then (if (rd_L3 x4 (wrap64 ((x4.length : Int) - 1))).length + (rd_L3 x52 x54).length < 140737488355328 then (page_Join_raw.l1 k x0 (x4.set ((wrap64 ((x4.length : Int) - 1)) : Int).toNat ((rd_L3 x4 (wrap64 ((x4.length : Int) - 1))) ++ (rd_L3 x52 x54))) x11 x12 x13 x52 x53 (wrap64 (x54 + 1)) x103000 x103001 x103002 x103003 x103004 x103005 x103006) else (none)) else (none)) else (none)) else ((some (([] : List Int) : List Int)).bind fun y111 => (if y111.length + (rd_L3 x52 x54).length < 140737488355328 then (if x4.length < 5864062014805 then (page_Join_raw.l1 k x0 (x4 ++ [(y111 ++ (rd_L3 x52 x54))]) x11 x12 x13 x52 x53 (wrap64 (x54 + 1)) x103000 x103001 x103002 x103003 x103004 x103005 x103006) else (none)) else (none)))) else ((some (([] : List Int) : List Int)).bind fun y120 => (if y120.length + (rd_L3 x52 x54).length < 140737488355328 then (if x4.length < 5864062014805 then (page_Join_raw.l1 k x0 (x4 ++ [(y120 ++ (rd_L3 x52 x54))]) x11 x12 x13 x52 x53 (wrap64 (x54 + 1)) x103000 x103001 x103002 x103003 x103004 x103005 x103006) else (none)) else (none)))) else (none)) else (none)) else (page_Join_raw.l0 k x0 x4 x103005 x11 x12 (wrap64 (x13 + 1)))
end
def page_Join_raw.f (k : Nat) (l0 : List (S43)) : Option ((List (List Int)) × Int) := page_Join_raw.l0 k l0 ([] : List (List Int)) false l0 (l0.length : Int) 0
set_option maxHeartbeats 8000000 in
set_option maxRecDepth 100000 in
theorem page_Join_raw.calls (k : Nat) (A0 : Option Addr) (c0 : Nat) (l0 : List (S43)) (r1 : List (List Int)) (r2 : Int) (w : World) (hr0 : Kd.C k43 w A0 l0.length l0) (hc0 : l0.length ≤ c0) (h : page_Join_raw.f k l0 = some (r1, r2)) :
  Calls Try.prog 38 #[.slice A0 l0.length c0] w fun e w' => ∃ v0_ : Value, e = .returned (.tuple #[v0_, .int .i64 r2]) ∧ Kd.S (Kd.slice 5 (Kd.int .u8)) 28 w' w.heap.size (fun _ => True) v0_ r1 ∧ Below w.heap.size w w' := by
 have hu43 := Try.underlying43
 have HR0 := Zma hr0
 have HC0 := Zma hc0
 clear hr0 hc0
 have HB := Zma (Below.refl w.heap.size w)
 have H : (page_Join_raw.l0 k l0 ([] : List (List Int)) false l0 (l0.length : Int) 0) = some (r1, r2) := h
 clear h
 have H' := Zma H
 clear H
 go_enter Try.func38, Try.ntmps38
 go_wp2
 repeat (go_quiet (fail); try go_wp2)
 go_loopg [4, 5, 13] k (fun kq v4 v5 v13 w' => ∃ (x4_1 : List (List Int)) (x5_1 : Bool) (x13_1 : Int), v5 = .bool x5_1 ∧ v13 = .int .i64 x13_1 ∧ Aside0 (page_Join_raw.l0 kq l0 x4_1 x5_1 l0 (l0.length : Int) x13_1 = some (r1, r2)) ∧ Aside0 (kq ≤ k) ∧ Aside0 (Kd.S (Kd.slice 5 (Kd.int .u8)) 28 w' w.heap.size (fun _ => True) v4 x4_1) ∧ Aside0 (Below w.heap.size w w'))
 case atStart => exact ⟨(([] : List (List Int))), (false), (0), (by first | rfl | (simp; done) | (simp [*]; done)), (by first | rfl | (simp; done) | (simp [*]; done)), H', ⟨Zra _⟩, ⟨by first | exact Kd.S_nil _ _ _ _ _ | exact Kd.N_nil _ _ _ _ _ | exact Kd.V_nil _ _ _ _ _ | exact Kd.Q_nil _ _ _ _ _ | exact Kd.R_nil _ _ _ _ _⟩, ⟨bq⟩⟩
 case round =>
  clear H'
  obtain ⟨x4_1, x5_1, x13_1, rfl, rfl, HA, HK1, HO_4, HB⟩ := hrel
  cases gk with
  | zero => exact absurd HA.out (by simp [page_Join_raw.l0])
  | succ k1 =>
   have H := HA.out
   clear HA
   simp only [page_Join_raw.l0] at H
   by_cases c2 : x13_1 < (l0.length : Int)
   ·rw [if_pos c2] at H
    have c2b0 : decide (x13_1 < (l0.length : Int)) = true := Zn c2
    clear c2
    by_cases c3 : 0 ≤ x13_1
    rotate_left
    ·rw [if_neg c3] at H
     exact absurd H (by simp)
    rw [if_pos c3] at H
    have c3b0 : decide (0 ≤ x13_1) = true := Zn c3
    clear c3
    by_cases c4 : x13_1 < (l0.length : Int)
    rotate_left
    ·rw [if_neg c4] at H
     exact absurd H (by simp)
    rw [if_pos c4] at H
    have c4b0 : decide (x13_1 < (l0.length : Int)) = true := Zn c4
    clear c4
    replace H := Option.bind_eq_some_iff.mp H
    obtain ⟨t103, A50, H⟩ := H
    replace H : (if t103 = true then (if (((rd_T43 l0 x13_1).f4) != x5_1) = true then (page_Join_raw.j1 k1 l0 x4_1 l0 (l0.length : Int) x13_1 true ((rd_T43 l0 x13_1).f0) ((rd_T43 l0 x13_1).f1) ((rd_T43 l0 x13_1).f2) ((rd_T43 l0 x13_1).f3) ((rd_T43 l0 x13_1).f4) ((rd_T43 l0 x13_1).f5) ((rd_T43 l0 x13_1).f6)) else (if x13_1 > 0 then (if 0 ≤ (wrap64 (x13_1 - 1)) then (if (wrap64 (x13_1 - 1)) < (l0.length : Int) then (if ((rd_T43 l0 x13_1).f0) = (wrap64 (((rd_T43 l0 (wrap64 (x13_1 - 1))).f0) + 1)) then (if (rd_T43 l0 x13_1).f4 = true then (page_Join_raw.j1 k1 l0 x4_1 l0 (l0.length : Int) x13_1 ((((rd_T43 l0 x13_1).f6).length : Int) == 0) ((rd_T43 l0 x13_1).f0) ((rd_T43 l0 x13_1).f1) ((rd_T43 l0 x13_1).f2) ((rd_T43 l0 x13_1).f3) ((rd_T43 l0 x13_1).f4) ((rd_T43 l0 x13_1).f5) ((rd_T43 l0 x13_1).f6)) else (page_Join_raw.j1 k1 l0 x4_1 l0 (l0.length : Int) x13_1 false ((rd_T43 l0 x13_1).f0) ((rd_T43 l0 x13_1).f1) ((rd_T43 l0 x13_1).f2) ((rd_T43 l0 x13_1).f3) ((rd_T43 l0 x13_1).f4) ((rd_T43 l0 x13_1).f5) ((rd_T43 l0 x13_1).f6))) else (page_Join_raw.j1 k1 l0 x4_1 l0 (l0.length : Int) x13_1 true ((rd_T43 l0 x13_1).f0) ((rd_T43 l0 x13_1).f1) ((rd_T43 l0 x13_1).f2) ((rd_T43 l0 x13_1).f3) ((rd_T43 l0 x13_1).f4) ((rd_T43 l0 x13_1).f5) ((rd_T43 l0 x13_1).f6))) else (none)) else (none)) else (if (rd_T43 l0 x13_1).f4 = true then (page_Join_raw.j1 k1 l0 x4_1 l0 (l0.length : Int) x13_1 ((((rd_T43 l0 x13_1).f6).length : Int) == 0) ((rd_T43 l0 x13_1).f0) ((rd_T43 l0 x13_1).f1) ((rd_T43 l0 x13_1).f2) ((rd_T43 l0 x13_1).f3) ((rd_T43 l0 x13_1).f4) ((rd_T43 l0 x13_1).f5) ((rd_T43 l0 x13_1).f6)) else (page_Join_raw.j1 k1 l0 x4_1 l0 (l0.length : Int) x13_1 false ((rd_T43 l0 x13_1).f0) ((rd_T43 l0 x13_1).f1) ((rd_T43 l0 x13_1).f2) ((rd_T43 l0 x13_1).f3) ((rd_T43 l0 x13_1).f4) ((rd_T43 l0 x13_1).f5) ((rd_T43 l0 x13_1).f6))))) else (some (([] : List (List Int)), 1))) = some (r1, r2) := H
    have A5 := Zma A50
    clear A50
    by_cases c6 : t103 = true
    ·subst c6
     have H1 : (if (((rd_T43 l0 x13_1).f4) != x5_1) = true then (page_Join_raw.j1 k1 l0 x4_1 l0 (l0.length : Int) x13_1 true ((rd_T43 l0 x13_1).f0) ((rd_T43 l0 x13_1).f1) ((rd_T43 l0 x13_1).f2) ((rd_T43 l0 x13_1).f3) ((rd_T43 l0 x13_1).f4) ((rd_T43 l0 x13_1).f5) ((rd_T43 l0 x13_1).f6)) else (if x13_1 > 0 then (if 0 ≤ (wrap64 (x13_1 - 1)) then (if (wrap64 (x13_1 - 1)) < (l0.length : Int) then (if ((rd_T43 l0 x13_1).f0) = (wrap64 (((rd_T43 l0 (wrap64 (x13_1 - 1))).f0) + 1)) then (if (rd_T43 l0 x13_1).f4 = true then (page_Join_raw.j1 k1 l0 x4_1 l0 (l0.length : Int) x13_1 ((((rd_T43 l0 x13_1).f6).length : Int) == 0) ((rd_T43 l0 x13_1).f0) ((rd_T43 l0 x13_1).f1) ((rd_T43 l0 x13_1).f2) ((rd_T43 l0 x13_1).f3) ((rd_T43 l0 x13_1).f4) ((rd_T43 l0 x13_1).f5) ((rd_T43 l0 x13_1).f6)) else (page_Join_raw.j1 k1 l0 x4_1 l0 (l0.length : Int) x13_1 false ((rd_T43 l0 x13_1).f0) ((rd_T43 l0 x13_1).f1) ((rd_T43 l0 x13_1).f2) ((rd_T43 l0 x13_1).f3) ((rd_T43 l0 x13_1).f4) ((rd_T43 l0 x13_1).f5) ((rd_T43 l0 x13_1).f6))) else (page_Join_raw.j1 k1 l0 x4_1 l0 (l0.length : Int) x13_1 true ((rd_T43 l0 x13_1).f0) ((rd_T43 l0 x13_1).f1) ((rd_T43 l0 x13_1).f2) ((rd_T43 l0 x13_1).f3) ((rd_T43 l0 x13_1).f4) ((rd_T43 l0 x13_1).f5) ((rd_T43 l0 x13_1).f6))) else (none)) else (none)) else (if (rd_T43 l0 x13_1).f4 = true then (page_Join_raw.j1 k1 l0 x4_1 l0 (l0.length : Int) x13_1 ((((rd_T43 l0 x13_1).f6).length : Int) == 0) ((rd_T43 l0 x13_1).f0) ((rd_T43 l0 x13_1).f1) ((rd_T43 l0 x13_1).f2) ((rd_T43 l0 x13_1).f3) ((rd_T43 l0 x13_1).f4) ((rd_T43 l0 x13_1).f5) ((rd_T43 l0 x13_1).f6)) else (page_Join_raw.j1 k1 l0 x4_1 l0 (l0.length : Int) x13_1 false ((rd_T43 l0 x13_1).f0) ((rd_T43 l0 x13_1).f1) ((rd_T43 l0 x13_1).f2) ((rd_T43 l0 x13_1).f3) ((rd_T43 l0 x13_1).f4) ((rd_T43 l0 x13_1).f5) ((rd_T43 l0 x13_1).f6))))) = some (r1, r2) := by rw [if_pos rfl] at H; exact H
     clear H
     have H := H1
     clear H1
     have HC7 := Zma H
     clear H
     have p101 : 0 ≤ (x13_1 : Int) := Zg (by first | (with_reducible assumption) | assumption)
     have q101 : x13_1 < (l0.length : Int) := Zg (by first | (with_reducible assumption) | assumption)
     obtain ⟨ad101, A101_6, c101_6, e101, hx101_0, hx101_1, hx101_2, hx101_3, hx101_4, hx101_5, hx101_6, hl101_6, hi101_6⟩ := at_T43 HR0.out x13_1 p101 q101
     cases e101
     replace hx101_0 := (HB.out.cell (Zh w _ hx101_0)).trans hx101_0
     replace hx101_1 := (HB.out.cell (Zh w _ hx101_1)).trans hx101_1
     replace hx101_2 := (HB.out.cell (Zh w _ hx101_2)).trans hx101_2
     replace hx101_3 := (HB.out.cell (Zh w _ hx101_3)).trans hx101_3
     replace hx101_4 := (HB.out.cell (Zh w _ hx101_4)).trans hx101_4
     replace hx101_5 := (HB.out.cell (Zh w _ hx101_5)).trans hx101_5
     replace hx101_6 := (HB.out.cell (Zh w _ hx101_6)).trans hx101_6
     have HR101_6 := Zma hi101_6
     have HC101_6 := Zma hl101_6
     clear hi101_6 hl101_6
     replace p101 := Zja p101
     replace q101 := Zja q101
     go_upto_region 8 with (first | ((with_reducible refine gate_dst (N := 7) rfl ?_); (try (refine gate_guard (by rfl) ?_; dsimp only)); refine box_event ?hg (N := 7) ?hd (cs := #[.int .i64 0, .int .i64 0, .bool false, .bool false, .bool false, .bool false, .slice none 0 0]) (t := 43) ?hr ?_; (case hd => rfl); (case hg => rfl); (case hr => first | (go_simp; done) | (go_simp; rfl)); intro gb102 hg w8 hbox hb; have n0_ := Zma (Kd.S_below (sq HO_4.out) hb); have n1_ := Zma (Zoa bq hb); have n2_ := Zma (hbox); have n3_ := Zma ((by rw [hg]; exact (Zfa bq) : w.heap.size ≤ gb102)); have n4_ := Zma ((by rw [hg]; exact (Zfa bq) : w.heap.size ≤ gb102)); clear HO_4 HB; have HO_4 := n0_; have HB := n1_; have BK102 := n2_; have GW102 := n3_; have GE102 := n4_; clear n0_ n1_ n2_ n3_ n4_ hb hbox hg; have hcz9_0 : w8.cell? ⟨gb102, 0, none⟩ = some (.int .i64 0) := (Zd BK102.out 0).trans rfl; have hcz9_1 : w8.cell? ⟨gb102, 1, none⟩ = some (.int .i64 0) := (Zd BK102.out 1).trans rfl; have hcz9_2 : w8.cell? ⟨gb102, 2, none⟩ = some (.bool false) := (Zd BK102.out 2).trans rfl; have hcz9_3 : w8.cell? ⟨gb102, 3, none⟩ = some (.bool false) := (Zd BK102.out 3).trans rfl; have hcz9_4 : w8.cell? ⟨gb102, 4, none⟩ = some (.bool false) := (Zd BK102.out 4).trans rfl; have hcz9_5 : w8.cell? ⟨gb102, 5, none⟩ = some (.bool false) := (by first | exact (Zd BK102.out 5).trans rfl | (refine (Zd BK102.out 5).trans ?_; show some (Value.bool _) = some (Value.bool _); congr 2; first | (with_reducible assumption) | exact Eq.symm (Aside0.out (by with_reducible assumption)))); obtain ⟨-, -, -, -, -, -, hcz9_6, hfz9_0, hfz9_1, hfz9_2, hfz9_3, hfz9_4, hfz9_5, hfz9_6⟩ := blk7 BK102.out) | (go_at_call 54; (with_reducible refine (page_Right.calls ((rd_T43 l0 x13_1).f0) ((rd_T43 l0 x13_1).f1) ((rd_T43 l0 x13_1).f2) ((rd_T43 l0 x13_1).f3) ((rd_T43 l0 x13_1).f4) ((rd_T43 l0 x13_1).f5) _ _ ((rd_T43 l0 x13_1).f6) true _ ?side1 ?side2 A5.out).mono ?_); (case side1 => exact Kd.C_below HR101_6.out bq); (case side2 => exact HC101_6.out); rintro e w10 ⟨rfl, hb⟩; have n0_ := Zma (Kd.S_below (by refine sq ?_; exact (Kd.S_mono (Kd.S_far (p := ⟨gb102, 6, none⟩) (Kd.S_far (p := ⟨gb102, 5, none⟩) (Kd.S_far (p := ⟨gb102, 4, none⟩) (Kd.S_far (p := ⟨gb102, 3, none⟩) (Kd.S_far (p := ⟨gb102, 2, none⟩) (Kd.S_far (p := ⟨gb102, 1, none⟩) (Kd.S_far (p := ⟨gb102, 0, none⟩) (Kd.S_types HO_4.out BK102.out (by decide)) (fun _ hk => hk.2) (.int .i64 ((rd_T43 l0 x13_1).f0))) (fun _ hk => hk.2) (.int .i64 ((rd_T43 l0 x13_1).f1))) (fun _ hk => hk.2) (.bool ((rd_T43 l0 x13_1).f2))) (fun _ hk => hk.2) (.bool ((rd_T43 l0 x13_1).f3))) (fun _ hk => hk.2) (.bool ((rd_T43 l0 x13_1).f4))) (fun _ hk => hk.2) (.bool ((rd_T43 l0 x13_1).f5))) (fun _ hk => hk.2) (.slice A101_6 ((rd_T43 l0 x13_1).f6).length c101_6)) (fun _ h_ => h_.1))) hb); have n1_ := Zma (Zab (g := gb102) (o := .cells #[.int .i64 ((rd_T43 l0 x13_1).f0), .int .i64 ((rd_T43 l0 x13_1).f1), .bool ((rd_T43 l0 x13_1).f2), .bool ((rd_T43 l0 x13_1).f3), .bool ((rd_T43 l0 x13_1).f4), .bool ((rd_T43 l0 x13_1).f5), .slice A101_6 ((rd_T43 l0 x13_1).f6).length c101_6] 43 (0, 0)) (by refine kq ?_; exact put7 (kq BK102.out)) hb); have n2_ := Zma (Zoa bq hb); clear HO_4 BK102 HB; have HO_4 := n0_; have BK102 := n1_; have HB := n2_; clear n0_ n1_ n2_; (try clear hb); (try clear hb2); (try clear hk); (try clear hi)))
     (try simp only [Act.put, Za, Zb, Zc])
     go_cut [50] (fun v50 wc => ∃ (kq : Nat) (x50_6 : Bool), v50 = .bool x50_6 ∧ Aside0 (page_Join_raw.j1 kq l0 x4_1 l0 (l0.length : Int) x13_1 x50_6 ((rd_T43 l0 x13_1).f0) ((rd_T43 l0 x13_1).f1) ((rd_T43 l0 x13_1).f2) ((rd_T43 l0 x13_1).f3) ((rd_T43 l0 x13_1).f4) ((rd_T43 l0 x13_1).f5) ((rd_T43 l0 x13_1).f6) = some (r1, r2)) ∧ Aside0 (kq ≤ k1) ∧ Aside0 (Kd.S (Kd.slice 5 (Kd.int .u8)) 28 wc w.heap.size (fun _ => True) u4 x4_1) ∧ Aside0 (wc.heap[gb102]? = some (.cells #[.int .i64 ((rd_T43 l0 x13_1).f0), .int .i64 ((rd_T43 l0 x13_1).f1), .bool ((rd_T43 l0 x13_1).f2), .bool ((rd_T43 l0 x13_1).f3), .bool ((rd_T43 l0 x13_1).f4), .bool ((rd_T43 l0 x13_1).f5), (.slice A101_6 ((rd_T43 l0 x13_1).f6).length c101_6)] 43 (0, 0))) ∧ Aside0 (Below w.heap.size w wc))
     case first =>
      have H := HC7.out
      clear HC7
      by_cases c11 : (((rd_T43 l0 x13_1).f4) != x5_1) = true
      ·rw [if_pos c11] at H
       have c11b0 : (((rd_T43 l0 x13_1).f4) != x5_1) = true := c11
       (try (have c11b1 : decide (((rd_T43 l0 x13_1).f4) = x5_1) = false := by simpa using c11))
       (try (have c11b2 : (((rd_T43 l0 x13_1).f4) == x5_1) = false := by simpa using c11))
       (try (have c11b3 : ¬ (((rd_T43 l0 x13_1).f4) = x5_1) := by simpa using c11))
       clear c11
       (first | rw [c11b0] | (simp only [i64_w, i32_w]; rw [c11b0]) | skip)
       have H' := Zma H
       clear H
       obtain ⟨hcz12_0, hcz12_1, hcz12_2, hcz12_3, hcz12_4, hcz12_5, hcz12_6, hfz12_0, hfz12_1, hfz12_2, hfz12_3, hfz12_4, hfz12_5, hfz12_6⟩ := blk7 BK102.out
       go_wp2
       repeat (go_quiet (fail); try go_wp2)
       go_meet
       case rel => exact ⟨_, (true), (by first | rfl | (simp; done) | (simp [*]; done)), H', ⟨by have := HK1.out; first | omega | exact Zra _⟩, ⟨sq HO_4.out⟩, ⟨kq BK102.out⟩, ⟨bq⟩⟩
      rw [if_neg c11] at H
      have c11b0 : (((rd_T43 l0 x13_1).f4) != x5_1) = false := by simpa using c11
      (try (have c11b1 : decide (((rd_T43 l0 x13_1).f4) = x5_1) = true := by simpa using c11))
      (try (have c11b2 : (((rd_T43 l0 x13_1).f4) == x5_1) = true := by simpa using c11))
      clear c11
      (first | rw [c11b0] | (simp only [i64_w, i32_w]; rw [c11b0]) | skip)
      by_cases c13 : x13_1 > 0
      ·rw [if_pos c13] at H
       have c13b0 : decide (0 < x13_1) = true := Zn c13
       clear c13
       obtain ⟨ji14, hji14⟩ : ∃ j_ : Int, (wrap64 (x13_1 - 1)) = j_ := ⟨_, rfl⟩
       replace H : (if 0 ≤ (ji14) then (if (ji14) < (l0.length : Int) then (if ((rd_T43 l0 x13_1).f0) = (wrap64 (((rd_T43 l0 (ji14)).f0) + 1)) then (if (rd_T43 l0 x13_1).f4 = true then (page_Join_raw.j1 k1 l0 x4_1 l0 (l0.length : Int) x13_1 ((((rd_T43 l0 x13_1).f6).length : Int) == 0) ((rd_T43 l0 x13_1).f0) ((rd_T43 l0 x13_1).f1) ((rd_T43 l0 x13_1).f2) ((rd_T43 l0 x13_1).f3) ((rd_T43 l0 x13_1).f4) ((rd_T43 l0 x13_1).f5) ((rd_T43 l0 x13_1).f6)) else (page_Join_raw.j1 k1 l0 x4_1 l0 (l0.length : Int) x13_1 false ((rd_T43 l0 x13_1).f0) ((rd_T43 l0 x13_1).f1) ((rd_T43 l0 x13_1).f2) ((rd_T43 l0 x13_1).f3) ((rd_T43 l0 x13_1).f4) ((rd_T43 l0 x13_1).f5) ((rd_T43 l0 x13_1).f6))) else (page_Join_raw.j1 k1 l0 x4_1 l0 (l0.length : Int) x13_1 true ((rd_T43 l0 x13_1).f0) ((rd_T43 l0 x13_1).f1) ((rd_T43 l0 x13_1).f2) ((rd_T43 l0 x13_1).f3) ((rd_T43 l0 x13_1).f4) ((rd_T43 l0 x13_1).f5) ((rd_T43 l0 x13_1).f6))) else (none)) else (none)) = some (r1, r2) := by first | (rw [hji14] at H; exact H) | (simp only [hji14] at H ⊢; exact H)
       have hji14w : (IntKind.i64.wrap (x13_1 - 1)) = ji14 := (i64_w _).trans hji14
       by_cases c15 : 0 ≤ (ji14)
       rotate_left
       ·rw [if_neg c15] at H
        exact absurd H (by simp)
       rw [if_pos c15] at H
       have c15b0 : decide (0 ≤ (ji14)) = true := Zn c15
       clear c15
       by_cases c16 : (ji14) < (l0.length : Int)
       rotate_left
       ·rw [if_neg c16] at H
        exact absurd H (by simp)
       rw [if_pos c16] at H
       have c16b0 : decide ((ji14) < (l0.length : Int)) = true := Zn c16
       clear c16
       by_cases c17 : ((rd_T43 l0 x13_1).f0) = (wrap64 (((rd_T43 l0 (ji14)).f0) + 1))
       ·rw [if_pos c17] at H
        have c17b0 : (((rd_T43 l0 x13_1).f0) == (wrap64 (((rd_T43 l0 (ji14)).f0) + 1))) = true := beq_iff_eq.mpr c17
        have c17b1 : (((rd_T43 l0 x13_1).f0) != (wrap64 (((rd_T43 l0 (ji14)).f0) + 1))) = false := bne_eq_false_iff_eq.mpr c17
        clear c17
        obtain ⟨bq18, hbq18⟩ : ∃ b_ : Bool, b_ = ((rd_T43 l0 x13_1).f4) := ⟨_, rfl⟩
        replace H : (if bq18 = true then (page_Join_raw.j1 k1 l0 x4_1 l0 (l0.length : Int) x13_1 ((((rd_T43 l0 x13_1).f6).length : Int) == 0) ((rd_T43 l0 x13_1).f0) ((rd_T43 l0 x13_1).f1) ((rd_T43 l0 x13_1).f2) ((rd_T43 l0 x13_1).f3) bq18 ((rd_T43 l0 x13_1).f5) ((rd_T43 l0 x13_1).f6)) else (page_Join_raw.j1 k1 l0 x4_1 l0 (l0.length : Int) x13_1 false ((rd_T43 l0 x13_1).f0) ((rd_T43 l0 x13_1).f1) ((rd_T43 l0 x13_1).f2) ((rd_T43 l0 x13_1).f3) bq18 ((rd_T43 l0 x13_1).f5) ((rd_T43 l0 x13_1).f6))) = some (r1, r2) := by rw [← hbq18] at H; exact H
        have Nbq18 := Zma hbq18
        clear hbq18
        by_cases c19 : bq18 = true
        ·subst c19
         have H1 : (page_Join_raw.j1 k1 l0 x4_1 l0 (l0.length : Int) x13_1 ((((rd_T43 l0 x13_1).f6).length : Int) == 0) ((rd_T43 l0 x13_1).f0) ((rd_T43 l0 x13_1).f1) ((rd_T43 l0 x13_1).f2) ((rd_T43 l0 x13_1).f3) true ((rd_T43 l0 x13_1).f5) ((rd_T43 l0 x13_1).f6)) = some (r1, r2) := by rw [if_pos rfl] at H; exact H
         clear H
         have H := H1
         clear H1
         have H' := Zma H
         clear H
         have hcz20_0 : w10.cell? ⟨gb102, 0, none⟩ = some (.int .i64 ((rd_T43 l0 x13_1).f0)) := (Zd BK102.out 0).trans rfl
         have hcz20_1 : w10.cell? ⟨gb102, 1, none⟩ = some (.int .i64 ((rd_T43 l0 x13_1).f1)) := (Zd BK102.out 1).trans rfl
         have hcz20_2 : w10.cell? ⟨gb102, 2, none⟩ = some (.bool ((rd_T43 l0 x13_1).f2)) := (Zd BK102.out 2).trans rfl
         have hcz20_3 : w10.cell? ⟨gb102, 3, none⟩ = some (.bool ((rd_T43 l0 x13_1).f3)) := (Zd BK102.out 3).trans rfl
         have hcz20_4 : w10.cell? ⟨gb102, 4, none⟩ = some (.bool true) := (by first | exact (Zd BK102.out 4).trans rfl | (refine (Zd BK102.out 4).trans ?_; show some (Value.bool _) = some (Value.bool _); congr 2; first | (with_reducible assumption) | exact Eq.symm (Aside0.out (by with_reducible assumption))))
         (try rw [← Nbq18.out] at c11b0)
         (try rw [← Nbq18.out] at c11b1)
         (try rw [← Nbq18.out] at c11b2)
         obtain ⟨-, -, -, -, -, hcz20_5, hcz20_6, hfz20_0, hfz20_1, hfz20_2, hfz20_3, hfz20_4, hfz20_5, hfz20_6⟩ := blk7 BK102.out
         have p104 : 0 ≤ ((ji14) : Int) := Zg (by first | (with_reducible assumption) | assumption)
         have q104 : (ji14) < (l0.length : Int) := Zg (by first | (with_reducible assumption) | assumption)
         obtain ⟨ad104, A104_6, c104_6, e104, hx104_0, hx104_1, hx104_2, hx104_3, hx104_4, hx104_5, hx104_6, hl104_6, hi104_6⟩ := at_T43 HR0.out (ji14) p104 q104
         (try rw [← Nbq18.out] at hx104_2)
         (try rw [← Nbq18.out] at hx104_3)
         (try rw [← Nbq18.out] at hx104_4)
         (try rw [← Nbq18.out] at hx104_5)
         obtain rfl : ad101 = ad104 := (by injection e104)
         replace hx104_0 := (HB.out.cell (Zh w _ hx104_0)).trans hx104_0
         replace hx104_1 := (HB.out.cell (Zh w _ hx104_1)).trans hx104_1
         replace hx104_2 := (HB.out.cell (Zh w _ hx104_2)).trans hx104_2
         replace hx104_3 := (HB.out.cell (Zh w _ hx104_3)).trans hx104_3
         replace hx104_4 := (HB.out.cell (Zh w _ hx104_4)).trans hx104_4
         replace hx104_5 := (HB.out.cell (Zh w _ hx104_5)).trans hx104_5
         replace hx104_6 := (HB.out.cell (Zh w _ hx104_6)).trans hx104_6
         have HR104_6 := Zma hi104_6
         have HC104_6 := Zma hl104_6
         clear hi104_6 hl104_6
         replace p104 := Zja p104
         replace q104 := Zja q104
         go_wp2
         repeat (go_quiet (fail); try go_wp2)
         go_meet
         case rel => exact ⟨_, (((((rd_T43 l0 x13_1).f6).length : Int) == 0)), (by first | rfl | (simp; done) | (simp [*]; done)), (by first | exact H' | (refine ⟨?_⟩; rw [← Nbq18.out]; exact H'.out)), ⟨by have := HK1.out; first | omega | exact Zra _⟩, ⟨sq HO_4.out⟩, ⟨kq BK102.out⟩, ⟨bq⟩⟩
        replace c19 := Bool.eq_false_iff.mpr c19
        subst c19
        have H1 : (page_Join_raw.j1 k1 l0 x4_1 l0 (l0.length : Int) x13_1 false ((rd_T43 l0 x13_1).f0) ((rd_T43 l0 x13_1).f1) ((rd_T43 l0 x13_1).f2) ((rd_T43 l0 x13_1).f3) false ((rd_T43 l0 x13_1).f5) ((rd_T43 l0 x13_1).f6)) = some (r1, r2) := by rw [if_neg (show ¬ (false = true) by decide)] at H; exact H
        clear H
        have H := H1
        clear H1
        have H' := Zma H
        clear H
        have hcz21_0 : w10.cell? ⟨gb102, 0, none⟩ = some (.int .i64 ((rd_T43 l0 x13_1).f0)) := (Zd BK102.out 0).trans rfl
        have hcz21_1 : w10.cell? ⟨gb102, 1, none⟩ = some (.int .i64 ((rd_T43 l0 x13_1).f1)) := (Zd BK102.out 1).trans rfl
        have hcz21_2 : w10.cell? ⟨gb102, 2, none⟩ = some (.bool ((rd_T43 l0 x13_1).f2)) := (Zd BK102.out 2).trans rfl
        have hcz21_3 : w10.cell? ⟨gb102, 3, none⟩ = some (.bool ((rd_T43 l0 x13_1).f3)) := (Zd BK102.out 3).trans rfl
        have hcz21_4 : w10.cell? ⟨gb102, 4, none⟩ = some (.bool false) := (by first | exact (Zd BK102.out 4).trans rfl | (refine (Zd BK102.out 4).trans ?_; show some (Value.bool _) = some (Value.bool _); congr 2; first | (with_reducible assumption) | exact Eq.symm (Aside0.out (by with_reducible assumption))))
        (try rw [← Nbq18.out] at c11b0)
        (try rw [← Nbq18.out] at c11b1)
        (try rw [← Nbq18.out] at c11b2)
        obtain ⟨-, -, -, -, -, hcz21_5, hcz21_6, hfz21_0, hfz21_1, hfz21_2, hfz21_3, hfz21_4, hfz21_5, hfz21_6⟩ := blk7 BK102.out
        have p104 : 0 ≤ ((ji14) : Int) := Zg (by first | (with_reducible assumption) | assumption)
        have q104 : (ji14) < (l0.length : Int) := Zg (by first | (with_reducible assumption) | assumption)
        obtain ⟨ad104, A104_6, c104_6, e104, hx104_0, hx104_1, hx104_2, hx104_3, hx104_4, hx104_5, hx104_6, hl104_6, hi104_6⟩ := at_T43 HR0.out (ji14) p104 q104
        (try rw [← Nbq18.out] at hx104_2)
        (try rw [← Nbq18.out] at hx104_3)
        (try rw [← Nbq18.out] at hx104_4)
        (try rw [← Nbq18.out] at hx104_5)
        obtain rfl : ad101 = ad104 := (by injection e104)
        replace hx104_0 := (HB.out.cell (Zh w _ hx104_0)).trans hx104_0
        replace hx104_1 := (HB.out.cell (Zh w _ hx104_1)).trans hx104_1
        replace hx104_2 := (HB.out.cell (Zh w _ hx104_2)).trans hx104_2
        replace hx104_3 := (HB.out.cell (Zh w _ hx104_3)).trans hx104_3
        replace hx104_4 := (HB.out.cell (Zh w _ hx104_4)).trans hx104_4
        replace hx104_5 := (HB.out.cell (Zh w _ hx104_5)).trans hx104_5
        replace hx104_6 := (HB.out.cell (Zh w _ hx104_6)).trans hx104_6
        have HR104_6 := Zma hi104_6
        have HC104_6 := Zma hl104_6
        clear hi104_6 hl104_6
        replace p104 := Zja p104
        replace q104 := Zja q104
        go_wp2
        repeat (go_quiet (fail); try go_wp2)
        go_meet
        case rel => exact ⟨_, (false), (by first | rfl | (simp; done) | (simp [*]; done)), (by first | exact H' | (refine ⟨?_⟩; rw [← Nbq18.out]; exact H'.out)), ⟨by have := HK1.out; first | omega | exact Zra _⟩, ⟨sq HO_4.out⟩, ⟨kq BK102.out⟩, ⟨bq⟩⟩
       rw [if_neg c17] at H
       have c17b0 : (((rd_T43 l0 x13_1).f0) == (wrap64 (((rd_T43 l0 (ji14)).f0) + 1))) = false := beq_eq_false_iff_ne.mpr c17
       have c17b1 : (((rd_T43 l0 x13_1).f0) != (wrap64 (((rd_T43 l0 (ji14)).f0) + 1))) = true := bne_iff_ne.mpr c17
       have H' := Zma H
       clear H
       obtain ⟨hcz22_0, hcz22_1, hcz22_2, hcz22_3, hcz22_4, hcz22_5, hcz22_6, hfz22_0, hfz22_1, hfz22_2, hfz22_3, hfz22_4, hfz22_5, hfz22_6⟩ := blk7 BK102.out
       have p104 : 0 ≤ ((ji14) : Int) := Zg (by first | (with_reducible assumption) | assumption)
       have q104 : (ji14) < (l0.length : Int) := Zg (by first | (with_reducible assumption) | assumption)
       obtain ⟨ad104, A104_6, c104_6, e104, hx104_0, hx104_1, hx104_2, hx104_3, hx104_4, hx104_5, hx104_6, hl104_6, hi104_6⟩ := at_T43 HR0.out (ji14) p104 q104
       obtain rfl : ad101 = ad104 := (by injection e104)
       replace hx104_0 := (HB.out.cell (Zh w _ hx104_0)).trans hx104_0
       replace hx104_1 := (HB.out.cell (Zh w _ hx104_1)).trans hx104_1
       replace hx104_2 := (HB.out.cell (Zh w _ hx104_2)).trans hx104_2
       replace hx104_3 := (HB.out.cell (Zh w _ hx104_3)).trans hx104_3
       replace hx104_4 := (HB.out.cell (Zh w _ hx104_4)).trans hx104_4
       replace hx104_5 := (HB.out.cell (Zh w _ hx104_5)).trans hx104_5
       replace hx104_6 := (HB.out.cell (Zh w _ hx104_6)).trans hx104_6
       have HR104_6 := Zma hi104_6
       have HC104_6 := Zma hl104_6
       clear hi104_6 hl104_6
       replace p104 := Zja p104
       replace q104 := Zja q104
       go_wp2
       repeat (go_quiet (fail); try go_wp2)
       go_meet
       case rel => exact ⟨_, (true), (by first | rfl | (simp; done) | (simp [*]; done)), (by first | exact H' | (refine ⟨?_⟩; rw [← Nbq18.out]; exact H'.out)), ⟨by have := HK1.out; first | omega | exact Zra _⟩, ⟨sq HO_4.out⟩, ⟨kq BK102.out⟩, ⟨bq⟩⟩
      rw [if_neg c13] at H
      have c13b0 : decide (0 < x13_1) = false := Zna c13
      clear c13
      obtain ⟨bq23, hbq23⟩ : ∃ b_ : Bool, b_ = ((rd_T43 l0 x13_1).f4) := ⟨_, rfl⟩
      replace H : (if bq23 = true then (page_Join_raw.j1 k1 l0 x4_1 l0 (l0.length : Int) x13_1 ((((rd_T43 l0 x13_1).f6).length : Int) == 0) ((rd_T43 l0 x13_1).f0) ((rd_T43 l0 x13_1).f1) ((rd_T43 l0 x13_1).f2) ((rd_T43 l0 x13_1).f3) bq23 ((rd_T43 l0 x13_1).f5) ((rd_T43 l0 x13_1).f6)) else (page_Join_raw.j1 k1 l0 x4_1 l0 (l0.length : Int) x13_1 false ((rd_T43 l0 x13_1).f0) ((rd_T43 l0 x13_1).f1) ((rd_T43 l0 x13_1).f2) ((rd_T43 l0 x13_1).f3) bq23 ((rd_T43 l0 x13_1).f5) ((rd_T43 l0 x13_1).f6))) = some (r1, r2) := by rw [← hbq23] at H; exact H
      have Nbq23 := Zma hbq23
      clear hbq23
      by_cases c24 : bq23 = true
      ·subst c24
       have H1 : (page_Join_raw.j1 k1 l0 x4_1 l0 (l0.length : Int) x13_1 ((((rd_T43 l0 x13_1).f6).length : Int) == 0) ((rd_T43 l0 x13_1).f0) ((rd_T43 l0 x13_1).f1) ((rd_T43 l0 x13_1).f2) ((rd_T43 l0 x13_1).f3) true ((rd_T43 l0 x13_1).f5) ((rd_T43 l0 x13_1).f6)) = some (r1, r2) := by rw [if_pos rfl] at H; exact H
       clear H
       have H := H1
       clear H1
       have H' := Zma H
       clear H
       have hcz25_0 : w10.cell? ⟨gb102, 0, none⟩ = some (.int .i64 ((rd_T43 l0 x13_1).f0)) := (Zd BK102.out 0).trans rfl
       have hcz25_1 : w10.cell? ⟨gb102, 1, none⟩ = some (.int .i64 ((rd_T43 l0 x13_1).f1)) := (Zd BK102.out 1).trans rfl
       have hcz25_2 : w10.cell? ⟨gb102, 2, none⟩ = some (.bool ((rd_T43 l0 x13_1).f2)) := (Zd BK102.out 2).trans rfl
       have hcz25_3 : w10.cell? ⟨gb102, 3, none⟩ = some (.bool ((rd_T43 l0 x13_1).f3)) := (Zd BK102.out 3).trans rfl
       have hcz25_4 : w10.cell? ⟨gb102, 4, none⟩ = some (.bool true) := (by first | exact (Zd BK102.out 4).trans rfl | (refine (Zd BK102.out 4).trans ?_; show some (Value.bool _) = some (Value.bool _); congr 2; first | (with_reducible assumption) | exact Eq.symm (Aside0.out (by with_reducible assumption))))
       (try rw [← Nbq23.out] at c11b0)
       (try rw [← Nbq23.out] at c11b1)
       (try rw [← Nbq23.out] at c11b2)
       obtain ⟨-, -, -, -, -, hcz25_5, hcz25_6, hfz25_0, hfz25_1, hfz25_2, hfz25_3, hfz25_4, hfz25_5, hfz25_6⟩ := blk7 BK102.out
       go_wp2
       repeat (go_quiet (fail); try go_wp2)
       go_meet
       case rel => exact ⟨_, (((((rd_T43 l0 x13_1).f6).length : Int) == 0)), (by first | rfl | (simp; done) | (simp [*]; done)), (by first | exact H' | (refine ⟨?_⟩; rw [← Nbq23.out]; exact H'.out)), ⟨by have := HK1.out; first | omega | exact Zra _⟩, ⟨sq HO_4.out⟩, ⟨kq BK102.out⟩, ⟨bq⟩⟩
      replace c24 := Bool.eq_false_iff.mpr c24
      subst c24
      have H1 : (page_Join_raw.j1 k1 l0 x4_1 l0 (l0.length : Int) x13_1 false ((rd_T43 l0 x13_1).f0) ((rd_T43 l0 x13_1).f1) ((rd_T43 l0 x13_1).f2) ((rd_T43 l0 x13_1).f3) false ((rd_T43 l0 x13_1).f5) ((rd_T43 l0 x13_1).f6)) = some (r1, r2) := by rw [if_neg (show ¬ (false = true) by decide)] at H; exact H
      clear H
      have H := H1
      clear H1
      have H' := Zma H
      clear H
      have hcz26_0 : w10.cell? ⟨gb102, 0, none⟩ = some (.int .i64 ((rd_T43 l0 x13_1).f0)) := (Zd BK102.out 0).trans rfl
      have hcz26_1 : w10.cell? ⟨gb102, 1, none⟩ = some (.int .i64 ((rd_T43 l0 x13_1).f1)) := (Zd BK102.out 1).trans rfl
      have hcz26_2 : w10.cell? ⟨gb102, 2, none⟩ = some (.bool ((rd_T43 l0 x13_1).f2)) := (Zd BK102.out 2).trans rfl
      have hcz26_3 : w10.cell? ⟨gb102, 3, none⟩ = some (.bool ((rd_T43 l0 x13_1).f3)) := (Zd BK102.out 3).trans rfl
      have hcz26_4 : w10.cell? ⟨gb102, 4, none⟩ = some (.bool false) := (by first | exact (Zd BK102.out 4).trans rfl | (refine (Zd BK102.out 4).trans ?_; show some (Value.bool _) = some (Value.bool _); congr 2; first | (with_reducible assumption) | exact Eq.symm (Aside0.out (by with_reducible assumption))))
      (try rw [← Nbq23.out] at c11b0)
      (try rw [← Nbq23.out] at c11b1)
      (try rw [← Nbq23.out] at c11b2)
      obtain ⟨-, -, -, -, -, hcz26_5, hcz26_6, hfz26_0, hfz26_1, hfz26_2, hfz26_3, hfz26_4, hfz26_5, hfz26_6⟩ := blk7 BK102.out
      go_wp2
      repeat (go_quiet (fail); try go_wp2)
      go_meet
      case rel => exact ⟨_, (false), (by first | rfl | (simp; done) | (simp [*]; done)), (by first | exact H' | (refine ⟨?_⟩; rw [← Nbq23.out]; exact H'.out)), ⟨by have := HK1.out; first | omega | exact Zra _⟩, ⟨sq HO_4.out⟩, ⟨kq BK102.out⟩, ⟨bq⟩⟩
     case rest =>
      clear HC7
      try clear c1
      try clear p1
      try clear q1
      try clear hx1
      try clear c2
      try clear c2b0
      try clear p2
      try clear q2
      try clear c3
      try clear c3b0
      try clear c4
      try clear c4b0
      try clear c6
      try clear p6
      try clear c10
      try clear p10
      try clear q10
      try clear hx10
      try clear c11
      try clear c11b0
      try clear c11b1
      try clear c11b2
      try clear c13
      try clear c13b0
      try clear c15
      try clear c15b0
      try clear c16
      try clear c16b0
      try clear c17
      try clear c17b0
      try clear c17b1
      try clear q18
      try clear c19
      try clear q23
      try clear c24
      try clear hcz12_0
      try clear hcz12_1
      try clear hcz12_2
      try clear hcz12_3
      try clear hcz12_4
      try clear hcz12_5
      try clear hcz12_6
      try clear hcz20_0
      try clear hcz20_1
      try clear hcz20_2
      try clear hcz20_3
      try clear hcz20_4
      try clear hcz20_5
      try clear hcz20_6
      try clear hcz21_0
      try clear hcz21_1
      try clear hcz21_2
      try clear hcz21_3
      try clear hcz21_4
      try clear hcz21_5
      try clear hcz21_6
      try clear hcz22_0
      try clear hcz22_1
      try clear hcz22_2
      try clear hcz22_3
      try clear hcz22_4
      try clear hcz22_5
      try clear hcz22_6
      try clear hcz25_0
      try clear hcz25_1
      try clear hcz25_2
      try clear hcz25_3
      try clear hcz25_4
      try clear hcz25_5
      try clear hcz25_6
      try clear hcz26_0
      try clear hcz26_1
      try clear hcz26_2
      try clear hcz26_3
      try clear hcz26_4
      try clear hcz26_5
      try clear hcz26_6
      try clear hcz9_0
      try clear hcz9_1
      try clear hcz9_2
      try clear hcz9_3
      try clear hcz9_4
      try clear hcz9_5
      try clear hcz9_6
      try clear hfz12_0
      try clear hfz12_1
      try clear hfz12_2
      try clear hfz12_3
      try clear hfz12_4
      try clear hfz12_5
      try clear hfz12_6
      try clear hfz20_0
      try clear hfz20_1
      try clear hfz20_2
      try clear hfz20_3
      try clear hfz20_4
      try clear hfz20_5
      try clear hfz20_6
      try clear hfz21_0
      try clear hfz21_1
      try clear hfz21_2
      try clear hfz21_3
      try clear hfz21_4
      try clear hfz21_5
      try clear hfz21_6
      try clear hfz22_0
      try clear hfz22_1
      try clear hfz22_2
      try clear hfz22_3
      try clear hfz22_4
      try clear hfz22_5
      try clear hfz22_6
      try clear hfz25_0
      try clear hfz25_1
      try clear hfz25_2
      try clear hfz25_3
      try clear hfz25_4
      try clear hfz25_5
      try clear hfz25_6
      try clear hfz26_0
      try clear hfz26_1
      try clear hfz26_2
      try clear hfz26_3
      try clear hfz26_4
      try clear hfz26_5
      try clear hfz26_6
      try clear hfz9_0
      try clear hfz9_1
      try clear hfz9_2
      try clear hfz9_3
      try clear hfz9_4
      try clear hfz9_5
      try clear hfz9_6
      try clear hx101_0
      try clear hx101_1
      try clear hx101_2
      try clear hx101_3
      try clear hx101_4
      try clear hx101_5
      try clear hx101_6
      try clear hx104_0
      try clear hx104_1
      try clear hx104_2
      try clear hx104_3
      try clear hx104_4
      try clear hx104_5
      try clear hx104_6
      try clear p101
      try clear p104
      try clear q101
      try clear q104
      obtain ⟨kq, x50_6, rfl, HA, HJ6, HO_4, BK102, HB⟩ := hcut
      cases kq with
      | zero => exact absurd HA.out (by simp [page_Join_raw.j1])
      | succ kj6 =>
       have H := HA.out
       clear HA
       simp only [page_Join_raw.j1] at H
       by_cases c27 : x50_6 = true
       ·subst c27
        have H1 : (some (([] : List (List Int)), 7)) = some (r1, r2) := by rw [if_pos rfl] at H; exact H
        clear H
        have H := H1
        clear H1
        simp only [Zib, Zhb] at H
        obtain ⟨rfl, rfl⟩ := H
        go_wp2
        repeat (go_quiet (fail); try go_wp2)
        go_ret2
        exact ⟨_, by first | rfl | (simp [errW_none, errW_some] <;> rfl) | (simp [*, errW_none, errW_some] <;> rfl), by first | exact Kd.S_nil _ _ _ _ _ | exact Kd.N_nil _ _ _ _ _ | exact Kd.V_nil _ _ _ _ _ | exact Kd.Q_nil _ _ _ _ _ | exact Kd.R_nil _ _ _ _ _, bq⟩
       replace c27 := Bool.eq_false_iff.mpr c27
       subst c27
       have H1 : (page_Join_raw.l1 kj6 l0 x4_1 l0 (l0.length : Int) x13_1 ((rd_T43 l0 x13_1).f6) (((rd_T43 l0 x13_1).f6).length : Int) 0 ((rd_T43 l0 x13_1).f0) ((rd_T43 l0 x13_1).f1) ((rd_T43 l0 x13_1).f2) ((rd_T43 l0 x13_1).f3) ((rd_T43 l0 x13_1).f4) ((rd_T43 l0 x13_1).f5) ((rd_T43 l0 x13_1).f6)) = some (r1, r2) := by rw [if_neg (show ¬ (false = true) by decide)] at H; exact H
       clear H
       have H := H1
       clear H1
       have H' := Zma H
       clear H
       obtain ⟨hcz28_0, hcz28_1, hcz28_2, hcz28_3, hcz28_4, hcz28_5, hcz28_6, hfz28_0, hfz28_1, hfz28_2, hfz28_3, hfz28_4, hfz28_5, hfz28_6⟩ := blk7 BK102.out
       go_wp2
       repeat (go_quiet (fail); try go_wp2)
       go_loopg [4, 54] kj6 (fun kq v4 v54 w' => ∃ (x4_3 : List (List Int)) (x54_3 : Int), v54 = .int .i64 x54_3 ∧ Aside0 (page_Join_raw.l1 kq l0 x4_3 l0 (l0.length : Int) x13_1 ((rd_T43 l0 x13_1).f6) (((rd_T43 l0 x13_1).f6).length : Int) x54_3 ((rd_T43 l0 x13_1).f0) ((rd_T43 l0 x13_1).f1) ((rd_T43 l0 x13_1).f2) ((rd_T43 l0 x13_1).f3) ((rd_T43 l0 x13_1).f4) ((rd_T43 l0 x13_1).f5) ((rd_T43 l0 x13_1).f6) = some (r1, r2)) ∧ Aside0 (kq ≤ kj6) ∧ Aside0 (Kd.S (Kd.slice 5 (Kd.int .u8)) 28 w' w.heap.size (fun _ => True) v4 x4_3) ∧ Aside0 (w'.heap[gb102]? = some (.cells #[.int .i64 ((rd_T43 l0 x13_1).f0), .int .i64 ((rd_T43 l0 x13_1).f1), .bool ((rd_T43 l0 x13_1).f2), .bool ((rd_T43 l0 x13_1).f3), .bool ((rd_T43 l0 x13_1).f4), .bool ((rd_T43 l0 x13_1).f5), (.slice A101_6 ((rd_T43 l0 x13_1).f6).length c101_6)] 43 (0, 0))) ∧ Aside0 (Below w.heap.size w w'))
       case atStart => exact ⟨(x4_1), (0), (by first | rfl | (simp; done) | (simp [*]; done)), H', ⟨Zra _⟩, ⟨sq HO_4.out⟩, ⟨kq BK102.out⟩, ⟨bq⟩⟩
       case round =>
        clear H'
        try clear c1
        try clear p1
        try clear q1
        try clear hx1
        try clear c2
        try clear c2b0
        try clear p2
        try clear q2
        try clear c3
        try clear c3b0
        try clear c4
        try clear c4b0
        try clear c6
        try clear p6
        try clear c10
        try clear p10
        try clear q10
        try clear hx10
        try clear c11
        try clear c11b0
        try clear c11b1
        try clear c11b2
        try clear c13
        try clear c13b0
        try clear c15
        try clear c15b0
        try clear c16
        try clear c16b0
        try clear c17
        try clear c17b0
        try clear c17b1
        try clear q18
        try clear c19
        try clear q23
        try clear c24
        try clear c27
        try clear hcz12_0
        try clear hcz12_1
        try clear hcz12_2
        try clear hcz12_3
        try clear hcz12_4
        try clear hcz12_5
        try clear hcz12_6
        try clear hcz20_0
        try clear hcz20_1
        try clear hcz20_2
        try clear hcz20_3
        try clear hcz20_4
        try clear hcz20_5
        try clear hcz20_6
        try clear hcz21_0
        try clear hcz21_1
        try clear hcz21_2
        try clear hcz21_3
        try clear hcz21_4
        try clear hcz21_5
        try clear hcz21_6
        try clear hcz22_0
        try clear hcz22_1
        try clear hcz22_2
        try clear hcz22_3
        try clear hcz22_4
        try clear hcz22_5
        try clear hcz22_6
        try clear hcz25_0
        try clear hcz25_1
        try clear hcz25_2
        try clear hcz25_3
        try clear hcz25_4
        try clear hcz25_5
        try clear hcz25_6
        try clear hcz26_0
        try clear hcz26_1
        try clear hcz26_2
        try clear hcz26_3
        try clear hcz26_4
        try clear hcz26_5
        try clear hcz26_6
        try clear hcz28_0
        try clear hcz28_1
        try clear hcz28_2
        try clear hcz28_3
        try clear hcz28_4
        try clear hcz28_5
        try clear hcz28_6
        try clear hcz9_0
        try clear hcz9_1
        try clear hcz9_2
        try clear hcz9_3
        try clear hcz9_4
        try clear hcz9_5
        try clear hcz9_6
        try clear hfz12_0
        try clear hfz12_1
        try clear hfz12_2
        try clear hfz12_3
        try clear hfz12_4
        try clear hfz12_5
        try clear hfz12_6
        try clear hfz20_0
        try clear hfz20_1
        try clear hfz20_2
        try clear hfz20_3
        try clear hfz20_4
        try clear hfz20_5
        try clear hfz20_6
        try clear hfz21_0
        try clear hfz21_1
        try clear hfz21_2
        try clear hfz21_3
        try clear hfz21_4
        try clear hfz21_5
        try clear hfz21_6
        try clear hfz22_0
        try clear hfz22_1
        try clear hfz22_2
        try clear hfz22_3
        try clear hfz22_4
        try clear hfz22_5
        try clear hfz22_6
        try clear hfz25_0
        try clear hfz25_1
        try clear hfz25_2
        try clear hfz25_3
        try clear hfz25_4
        try clear hfz25_5
        try clear hfz25_6
        try clear hfz26_0
        try clear hfz26_1
        try clear hfz26_2
        try clear hfz26_3
        try clear hfz26_4
        try clear hfz26_5
        try clear hfz26_6
        try clear hfz28_0
        try clear hfz28_1
        try clear hfz28_2
        try clear hfz28_3
        try clear hfz28_4
        try clear hfz28_5
        try clear hfz28_6
        try clear hfz9_0
        try clear hfz9_1
        try clear hfz9_2
        try clear hfz9_3
        try clear hfz9_4
        try clear hfz9_5
        try clear hfz9_6
        try clear hx101_0
        try clear hx101_1
        try clear hx101_2
        try clear hx101_3
        try clear hx101_4
        try clear hx101_5
        try clear hx101_6
        try clear hx104_0
        try clear hx104_1
        try clear hx104_2
        try clear hx104_3
        try clear hx104_4
        try clear hx104_5
        try clear hx104_6
        try clear p1
        try clear p10
        try clear p101
        try clear p104
        try clear p2
        try clear p6
        try clear q1
        try clear q10
        try clear q101
        try clear q104
        try clear q18
        try clear q2
        try clear q23
        obtain ⟨x4_3, x54_3, rfl, HA, HK3, HO_4, BK102, HB⟩ := hrel
        cases gk with
        | zero => exact absurd HA.out (by simp [page_Join_raw.l1])
        | succ k3 =>
         have H := HA.out
         clear HA
         simp only [page_Join_raw.l1] at H
         by_cases c29 : x54_3 < (((rd_T43 l0 x13_1).f6).length : Int)
         ·rw [if_pos c29] at H
          have c29b0 : decide (x54_3 < (((rd_T43 l0 x13_1).f6).length : Int)) = true := Zn c29
          clear c29
          by_cases c30 : 0 ≤ x54_3
          rotate_left
          ·rw [if_neg c30] at H
           exact absurd H (by simp)
          rw [if_pos c30] at H
          have c30b0 : decide (0 ≤ x54_3) = true := Zn c30
          clear c30
          by_cases c31 : x54_3 < (((rd_T43 l0 x13_1).f6).length : Int)
          rotate_left
          ·rw [if_neg c31] at H
           exact absurd H (by simp)
          rw [if_pos c31] at H
          have c31b0 : decide (x54_3 < (((rd_T43 l0 x13_1).f6).length : Int)) = true := Zn c31
          clear c31
          by_cases c32 : x54_3 = 0
          ·rw [if_pos c32] at H
           have c32b0 : (x54_3 == 0) = true := beq_iff_eq.mpr c32
           have c32b1 : (x54_3 != 0) = false := bne_eq_false_iff_eq.mpr c32
           clear c32
           by_cases c33 : ((rd_T43 l0 x13_1).f4) = true
           ·rw [if_pos c33] at H
            have c33b0 : ((rd_T43 l0 x13_1).f4) = true := c33
            clear c33
            obtain ⟨ji34, hji34⟩ : ∃ j_ : Int, (wrap64 ((x4_3.length : Int) - 1)) = j_ := ⟨_, rfl⟩
            replace H : (if 0 ≤ (ji34) then (if (ji34) < (x4_3.length : Int) then (if (rd_L3 x4_3 (ji34)).length + (rd_L3 ((rd_T43 l0 x13_1).f6) x54_3).length < 140737488355328 then (page_Join_raw.l1 k3 l0 (x4_3.set ((ji34) : Int).toNat ((rd_L3 x4_3 (ji34)) ++ (rd_L3 ((rd_T43 l0 x13_1).f6) x54_3))) l0 (l0.length : Int) x13_1 ((rd_T43 l0 x13_1).f6) (((rd_T43 l0 x13_1).f6).length : Int) (wrap64 (x54_3 + 1)) ((rd_T43 l0 x13_1).f0) ((rd_T43 l0 x13_1).f1) ((rd_T43 l0 x13_1).f2) ((rd_T43 l0 x13_1).f3) ((rd_T43 l0 x13_1).f4) ((rd_T43 l0 x13_1).f5) ((rd_T43 l0 x13_1).f6)) else (none)) else (none)) else (none)) = some (r1, r2) := by first | (rw [hji34] at H; exact H) | (simp only [hji34] at H ⊢; exact H)
            have hji34w : (IntKind.i64.wrap ((x4_3.length : Int) - 1)) = ji34 := (i64_w _).trans hji34
            by_cases c35 : 0 ≤ (ji34)
            rotate_left
            ·rw [if_neg c35] at H
             exact absurd H (by simp)
            rw [if_pos c35] at H
            have c35b0 : decide (0 ≤ (ji34)) = true := Zn c35
            clear c35
            by_cases c36 : (ji34) < (x4_3.length : Int)
            rotate_left
            ·rw [if_neg c36] at H
             exact absurd H (by simp)
            rw [if_pos c36] at H
            have c36b0 : decide ((ji34) < (x4_3.length : Int)) = true := Zn c36
            clear c36
            by_cases c37 : (rd_L3 x4_3 (ji34)).length + (rd_L3 ((rd_T43 l0 x13_1).f6) x54_3).length < 140737488355328
            rotate_left
            ·rw [if_neg c37] at H
             exact absurd H (by simp)
            rw [if_pos c37] at H
            have LMc37 := Zma c37
            clear c37
            obtain ⟨y107, hy107⟩ : ∃ y_ : List Int, y_ = ((rd_L3 x4_3 (ji34)) ++ (rd_L3 ((rd_T43 l0 x13_1).f6) x54_3)) := ⟨_, rfl⟩
            replace H : (page_Join_raw.l1 k3 l0 (x4_3.set ((ji34) : Int).toNat y107) l0 (l0.length : Int) x13_1 ((rd_T43 l0 x13_1).f6) (((rd_T43 l0 x13_1).f6).length : Int) (wrap64 (x54_3 + 1)) ((rd_T43 l0 x13_1).f0) ((rd_T43 l0 x13_1).f1) ((rd_T43 l0 x13_1).f2) ((rd_T43 l0 x13_1).f3) ((rd_T43 l0 x13_1).f4) ((rd_T43 l0 x13_1).f5) ((rd_T43 l0 x13_1).f6)) = some (r1, r2) := by first | (rw [hy107]; with_reducible exact H) | (have H2_ := (Zsa _ _).symm.trans H; rw [hy107]; with_reducible exact H2_) | (have H2_ := (Zsa _ _).symm.trans H; with_reducible exact H2_) | with_reducible exact H | (rw [hy107]; exact H) | exact H
            have Ny107 := Zma hy107
            clear hy107
            obtain ⟨y110, hy110⟩ : ∃ y_ : List (List Int), y_ = (x4_3.set ((ji34) : Int).toNat y107) := ⟨_, rfl⟩
            replace H : (page_Join_raw.l1 k3 l0 y110 l0 (l0.length : Int) x13_1 ((rd_T43 l0 x13_1).f6) (((rd_T43 l0 x13_1).f6).length : Int) (wrap64 (x54_3 + 1)) ((rd_T43 l0 x13_1).f0) ((rd_T43 l0 x13_1).f1) ((rd_T43 l0 x13_1).f2) ((rd_T43 l0 x13_1).f3) ((rd_T43 l0 x13_1).f4) ((rd_T43 l0 x13_1).f5) ((rd_T43 l0 x13_1).f6)) = some (r1, r2) := by first | (rw [hy110]; with_reducible exact H) | (have H2_ := (Zsa _ _).symm.trans H; rw [hy110]; with_reducible exact H2_) | (have H2_ := (Zsa _ _).symm.trans H; with_reducible exact H2_) | with_reducible exact H | (rw [hy110]; exact H) | exact H
            have Ny110 := Zma hy110
            clear hy110
            have H' := Zma H
            clear H
            have p105 : 0 ≤ (x54_3 : Int) := Zg (by first | (with_reducible assumption) | assumption)
            have q105 : x54_3 < (((rd_T43 l0 x13_1).f6).length : Int) := Zg (by first | (with_reducible assumption) | assumption)
            obtain ⟨ad105, A105_0, c105_0, e105, hx105_0, hl105_0, hi105_0⟩ := at_L3 HR101_6.out x54_3 p105 q105
            cases e105
            replace hx105_0 := (HB.out.cell (Zh w _ hx105_0)).trans hx105_0
            have HR105_0 := Zma hi105_0
            have HC105_0 := Zma hl105_0
            clear hi105_0 hl105_0
            replace p105 := Zja p105
            replace q105 := Zja q105
            obtain ⟨hcz39_0, hcz39_1, hcz39_2, hcz39_3, hcz39_4, hcz39_5, hcz39_6, hfz39_0, hfz39_1, hfz39_2, hfz39_3, hfz39_4, hfz39_5, hfz39_6⟩ := blk7 BK102.out
            obtain ⟨Ao40, co40, eo40⟩ := Kd.S_slice HO_4.out
            subst eo40
            have p106 : 0 ≤ ((ji34) : Int) := Zg (by first | (with_reducible assumption) | assumption)
            have q106 : (ji34) < (x4_3.length : Int) := Zg (by first | (with_reducible assumption) | assumption)
            obtain ⟨ad106, A106_0, c106_0, e106, hx106_0, hl106_0, hi106_0⟩ := at_L3 (Kd.S_reads' HO_4.out).2.2 (ji34) p106 q106
            cases e106
            obtain ⟨ce106, hce106, hMe106, hcc106⟩ := Kd.S_get HO_4.out [] (ji34) p106 (by first | exact q106 | exact Zg (by first | (with_reducible assumption) | assumption) | (have e_ := (Kd.S_reads' HO_4.out).1; omega))
            obtain ⟨ve106_0, rfl, ge106_0⟩ := hMe106
            have hv106_0 := hcc106 0 _ rfl
            rw [Nat.add_zero, show ((Kd.slice 5 (Kd.int .u8))).sz = 1 from rfl, Nat.mul_one] at hv106_0
            replace hv106_0 := Zgb (hv106_0.symm.trans hx106_0)
            rw [hv106_0] at ge106_0
            have HL106_0 := Zma (show Kd.R (Kd.int .u8) 5 _ _ _ _ (rd_L3 x4_3 (ji34)) from ge106_0)
            clear hv106_0 ge106_0
            have HX106_0 := Zma hx106_0
            clear hcc106 hce106
            have HR106_0 := Zma hi106_0
            have HC106_0 := Zma hl106_0
            clear hi106_0 hl106_0
            replace p106 := Zja p106
            replace q106 := Zja q106
            obtain ⟨go41, co41, eo41, gb41, gl41, cl41, HG41⟩ := Kd.S_form HO_4.out (by have h_ : ((ji34) : Int) < ((x4_3.length : Int) : Int) := Zg (by first | (with_reducible assumption) | assumption); have h2_ : 0 ≤ ((ji34) : Int) := (Zg (by first | (with_reducible assumption) | assumption)); omega)
            (first | cases eo41 | (injection eo41 with ea_ en_ ec_; (first | subst ea_ | (injection ea_ with ea_; subst ea_)); subst ec_; clear en_))
            have GB41 := Zma gb41
            have GG41 := Zma HG41
            clear gb41 gl41 HG41
            (first | simp only [add_plain] at hx106_0 | skip)
            obtain ⟨oki41, ce41, hcl41, hM41, hcc41, _, _, hH41⟩ := Kd.S_elem HO_4.out [] ((ji34) : Int) (Zg (by first | (with_reducible assumption) | assumption)) (by have h_ : ((ji34) : Int) < ((x4_3.length : Int) : Int) := Zg (by first | (with_reducible assumption) | assumption); first | exact h_ | (have e_ := (Kd.S_reads' HO_4.out).1; omega) | simpa using h_)
            obtain ⟨ve41_0, rfl, ge41_0⟩ := hM41
            have hv41 := hcc41 0 _ rfl
            have hX41 := HX106_0.out
            (try simp only [add_plain] at hX41)
            (try simp only [Nat.add_zero] at hv41)
            (try rw [show ((Kd.slice 5 (Kd.int .u8))).sz = 1 from rfl, Nat.mul_one] at hv41)
            replace hv41 := Zgb (hv41.symm.trans hX41)
            subst hv41
            clear hX41 hcc41 hcl41
            have UU41 := Zma (show Kd.R (Kd.int .u8) 5 _ w.heap.size oki41 (.slice A106_0 (rd_L3 x4_3 (ji34)).length c106_0) (rd_L3 x4_3 (ji34)) from ge41_0)
            have HH41 := Zma hH41
            have HN41 := Zma (Kd.S_reads' HO_4.out).1
            clear hH41 ge41_0
            go_wp2_with (first | ((with_reducible refine gate_builtin (b := .append) (xs := #[.tmp 73, .tmp 74]) rfl ?_); (try (refine gate_guard (by rfl) ?_; dsimp only)); at_builtin; refine Kd.R_append_rows (Kd.int .u8) (w0 := w) w.heap.size rfl (.tmp 73) (.tmp 74) 28 5 (.int .u8 0) 1 rfl Try.underlying28 info5 rfl (by decide) (by omega) (.slice A106_0 (rd_L3 x4_3 (ji34)).length c106_0) (rd_L3 x4_3 (ji34)) (rd_L3 ((rd_T43 l0 x13_1).f6) x54_3) _ _ _ (fun k_ => oki41 k_ ∨ ((fun _ => True)) k_ ∧ wr.heap.size ≤ k_) (fun _ => False) rfl rfl ?aO ?aR (fun _ _ h => h) (fun _ h => h.elim) ?aF ?aB ?aS ?aL ?_; (case aR => exact cq ((Kd.C_below HR105_0.out HB.out))); (case aB => exact bq); (case aF => exact (fun k_ hk => .inr ⟨trivial, hk⟩)); (case aO => exact (by refine rq ?_; exact Kd.R_mono UU41.out (fun _ hk => .inl hk))); (case aS => exact (Zfa bq)); (case aL => have := LMc37.out; omega); intro v108 w42 ho hb hg hat; rw [← Ny107.out] at ho; have n0_ := Zma (blk_grown (g := gb102) (o := .cells #[.int .i64 ((rd_T43 l0 x13_1).f0), .int .i64 ((rd_T43 l0 x13_1).f1), .bool ((rd_T43 l0 x13_1).f2), .bool ((rd_T43 l0 x13_1).f3), .bool ((rd_T43 l0 x13_1).f4), .bool ((rd_T43 l0 x13_1).f5), .slice (some ad105) ((rd_T43 l0 x13_1).f6).length c101_6] 43 (0, 0)) (kq BK102.out) hg (Kd.R_ne HL106_0.out BK102.out (by decide))); have n1_ := Zma (hb); have n2_ := Zma (Kd.H_grown (Kd.H_widen (by repeat (first | exact HH41.out | refine Kd.H_alloc ?_ _ | refine Kd.H_drewN ?_ _ | refine Kd.H_drew ?_))) hg (fun k_ e_ => .inl (UU41.out.1 k_ e_))); have n3_ := Zma (ho); clear BK102 HB HH41 HO_4 UU41 HL106_0; have BK102 := n0_; have HB := n1_; have HH41 := n2_; have HO109 := n3_; clear n0_ n1_ n2_ n3_ ho hb hg hat; have p38 : 0 ≤ ((ji34) : Int) := Zg (by first | (with_reducible assumption) | assumption); have q38 : ((ji34) : Int) < ((x4_3.length : Int) : Int) := Zg (by first | (with_reducible assumption) | assumption); replace p38 := Zja p38; replace q38 := Zja q38; obtain ⟨Ao45, co45, eo45⟩ := Kd.R_slice HO109.out; subst eo45; obtain ⟨_, _, hraw43, _, _, hcc43, _⟩ := Kd.H_raw HH41.out (Zg (by first | (with_reducible assumption) | assumption)) (by have h_ : ((ji34) : Int) < ((x4_3.length : Int) : Int) := Zg (by first | (with_reducible assumption) | assumption); first | exact h_ | (have e_ := (HN41.out); omega) | simpa using h_); obtain ⟨_, hfr43⟩ := Kd.H_at HH41.out (Zg (by first | (with_reducible assumption) | assumption)) (by have h_ : ((ji34) : Int) < ((x4_3.length : Int) : Int) := Zg (by first | (with_reducible assumption) | assumption); first | exact h_ | (have e_ := (HN41.out); omega) | simpa using h_); have hx43_0 := hcc43 0 _ rfl; have hf43_0 := hfr43 0; (try simp only [Nat.add_zero] at hx43_0 hf43_0); (try rw [show ((Kd.slice 5 (Kd.int .u8))).sz = 1 from rfl, Nat.mul_one] at hx43_0); (try rw [show ((Kd.slice 5 (Kd.int .u8))).sz = 1 from rfl, Nat.mul_one] at hf43_0); have HP43 := Kd.S_seg0 HH41.out (Zg (by first | (with_reducible assumption) | assumption)) (by have h_ : ((ji34) : Int) < ((x4_3.length : Int) : Int) := Zg (by first | (with_reducible assumption) | assumption); first | exact h_ | (have e_ := (HN41.out); omega) | simpa using h_) (seg := [.slice Ao45 y107.length co45]) (j := 0) (show 1 ≤ 1 from by decide) (x' := y107) (Kd.M_row HO109.out) (fun _ hk => hk); (try simp only [show ((Kd.slice 5 (Kd.int .u8))).sz = 1 from rfl, Nat.mul_one, Nat.add_zero] at HP43); clear hcc43 hfr43) | ((with_reducible refine gate_store (t := 28) (p := 76) rfl ?_); (repeat rw [Zcb]); (try (rw [drewN_self w42]; generalize hq_ : World.drewN w42 _ = w42; have n0_ := Zma (Kd.S_at hq_ HO_4.out); have n1_ := Zma (blk_at hq_ BK102.out); have n2_ := Zma (below_at hq_ HB.out); clear hq_ HO_4 BK102 HB; have HO_4 := n0_; have BK102 := n1_; have HB := n2_; clear n0_ n1_ n2_; (try (obtain ⟨Ao45, co45, eo45⟩ := Kd.R_slice HO109.out)); (try (subst eo45)); (try (obtain ⟨_, _, hraw43, _, _, hcc43, _⟩ := Kd.H_raw HH41.out (Zg (by first | (with_reducible assumption) | assumption)) (by have h_ : ((ji34) : Int) < ((x4_3.length : Int) : Int) := Zg (by first | (with_reducible assumption) | assumption); first | exact h_ | (have e_ := (HN41.out); omega) | simpa using h_))); (try (obtain ⟨_, hfr43⟩ := Kd.H_at HH41.out (Zg (by first | (with_reducible assumption) | assumption)) (by have h_ : ((ji34) : Int) < ((x4_3.length : Int) : Int) := Zg (by first | (with_reducible assumption) | assumption); first | exact h_ | (have e_ := (HN41.out); omega) | simpa using h_))); (try (have hx43_0 := hcc43 0 _ rfl)); (try (have hf43_0 := hfr43 0)); (try (try simp only [Nat.add_zero] at hx43_0 hf43_0)); (try (try rw [show ((Kd.slice 5 (Kd.int .u8))).sz = 1 from rfl, Nat.mul_one] at hx43_0)); (try (try rw [show ((Kd.slice 5 (Kd.int .u8))).sz = 1 from rfl, Nat.mul_one] at hf43_0)); (try (have HP43 := Kd.S_seg0 HH41.out (Zg (by first | (with_reducible assumption) | assumption)) (by have h_ : ((ji34) : Int) < ((x4_3.length : Int) : Int) := Zg (by first | (with_reducible assumption) | assumption); first | exact h_ | (have e_ := (HN41.out); omega) | simpa using h_) (seg := [.slice Ao45 y107.length co45]) (j := 0) (show 1 ≤ 1 from by decide) (x' := y107) (Kd.M_row HO109.out) (fun _ hk => hk))); (try (try simp only [show ((Kd.slice 5 (Kd.int .u8))).sz = 1 from rfl, Nat.mul_one, Nat.add_zero] at HP43)); (try (clear hcc43 hfr43)))); refine store_event (t := 28) (p := 76) (v := ?vo_w44) (w1 := (w42.setCell ⟨go41, ((ji34) : Int).toNat, none⟩ (.slice Ao45 y107.length co45))) ?hg ?ho ?hn ?hr ?_; (case ho => rfl); (case hg => rfl); (case hn => rfl); (case hr => first | (go_simp; done) | (go_simp; rfl)); intro w44 hw; have hg : w42.grownBy w44 (some go41) := (by rw [hw]; exact HP43.2); have hp_ : Kd.S (Kd.slice 5 (Kd.int .u8)) 28 w44 w.heap.size (fun _ => True) (.slice (some ⟨go41, 0, none⟩) x4_3.length co40) y110 := (by rw [hw, Ny110.out]; exact HP43.1); clear HP43; have n0_ := Zma (blk_grown (g := gb102) (o := .cells #[.int .i64 ((rd_T43 l0 x13_1).f0), .int .i64 ((rd_T43 l0 x13_1).f1), .bool ((rd_T43 l0 x13_1).f2), .bool ((rd_T43 l0 x13_1).f3), .bool ((rd_T43 l0 x13_1).f4), .bool ((rd_T43 l0 x13_1).f5), .slice (some ad105) ((rd_T43 l0 x13_1).f6).length c101_6] 43 (0, 0)) (kq BK102.out) hg (Kd.R_ne hraw43 BK102.out (by decide))); have n1_ := Zma ((by rw [hw]; exact Zm HB.out GB41.out : Below w.heap.size w w44)); have n2_ := Zma (hp_); clear BK102 HB HO109 HH41; have BK102 := n0_; have HB := n1_; have HO_4 := n2_; clear n0_ n1_ n2_ hg hw hp_ hraw43))
            go_roundg k3
            case measure => have := HK1.out; have := HJ6.out; have := HK3.out; omega
            case rel => exact ⟨(y110), (wrap64 (x54_3 + 1)), (by first | rfl | (simp; done) | (simp [*]; done)), H', ⟨by have := HK1.out; have := HJ6.out; have := HK3.out; omega⟩, ⟨sq HO_4.out⟩, ⟨kq BK102.out⟩, ⟨bq⟩⟩
           rw [if_neg c33] at H
           have c33b0 : ((rd_T43 l0 x13_1).f4) = false := by simpa using c33
           clear c33
           obtain ⟨y111, hy111⟩ : ∃ y_ : List Int, y_ = (([] : List Int)) := ⟨_, rfl⟩
           replace H : (if y111.length + (rd_L3 ((rd_T43 l0 x13_1).f6) x54_3).length < 140737488355328 then (if x4_3.length < 5864062014805 then (page_Join_raw.l1 k3 l0 (x4_3 ++ [(y111 ++ (rd_L3 ((rd_T43 l0 x13_1).f6) x54_3))]) l0 (l0.length : Int) x13_1 ((rd_T43 l0 x13_1).f6) (((rd_T43 l0 x13_1).f6).length : Int) (wrap64 (x54_3 + 1)) ((rd_T43 l0 x13_1).f0) ((rd_T43 l0 x13_1).f1) ((rd_T43 l0 x13_1).f2) ((rd_T43 l0 x13_1).f3) ((rd_T43 l0 x13_1).f4) ((rd_T43 l0 x13_1).f5) ((rd_T43 l0 x13_1).f6)) else (none)) else (none)) = some (r1, r2) := by first | (rw [hy111]; with_reducible exact H) | (have H2_ := (Zsa _ _).symm.trans H; rw [hy111]; with_reducible exact H2_) | (have H2_ := (Zsa _ _).symm.trans H; with_reducible exact H2_) | with_reducible exact H | (rw [hy111]; exact H) | exact H
           have Ny111 := Zma hy111
           clear hy111
           by_cases c46 : y111.length + (rd_L3 ((rd_T43 l0 x13_1).f6) x54_3).length < 140737488355328
           rotate_left
           ·rw [if_neg c46] at H
            exact absurd H (by simp)
           rw [if_pos c46] at H
           have LMc46 := Zma c46
           clear c46
           obtain ⟨y114, hy114⟩ : ∃ y_ : List Int, y_ = (y111 ++ (rd_L3 ((rd_T43 l0 x13_1).f6) x54_3)) := ⟨_, rfl⟩
           replace H : (if x4_3.length < 5864062014805 then (page_Join_raw.l1 k3 l0 (x4_3 ++ [y114]) l0 (l0.length : Int) x13_1 ((rd_T43 l0 x13_1).f6) (((rd_T43 l0 x13_1).f6).length : Int) (wrap64 (x54_3 + 1)) ((rd_T43 l0 x13_1).f0) ((rd_T43 l0 x13_1).f1) ((rd_T43 l0 x13_1).f2) ((rd_T43 l0 x13_1).f3) ((rd_T43 l0 x13_1).f4) ((rd_T43 l0 x13_1).f5) ((rd_T43 l0 x13_1).f6)) else (none)) = some (r1, r2) := by first | (rw [hy114]; with_reducible exact H) | (have H2_ := (Zsa _ _).symm.trans H; rw [hy114]; with_reducible exact H2_) | (have H2_ := (Zsa _ _).symm.trans H; with_reducible exact H2_) | with_reducible exact H | (rw [hy114]; exact H) | exact H
           have Ny114 := Zma hy114
           clear hy114
           by_cases c47 : x4_3.length < 5864062014805
           rotate_left
           ·rw [if_neg c47] at H
            exact absurd H (by simp)
           rw [if_pos c47] at H
           have LMc47 := Zma c47
           clear c47
           obtain ⟨y117, hy117⟩ : ∃ y_ : List (List Int), y_ = (x4_3 ++ [y114]) := ⟨_, rfl⟩
           replace H : (page_Join_raw.l1 k3 l0 y117 l0 (l0.length : Int) x13_1 ((rd_T43 l0 x13_1).f6) (((rd_T43 l0 x13_1).f6).length : Int) (wrap64 (x54_3 + 1)) ((rd_T43 l0 x13_1).f0) ((rd_T43 l0 x13_1).f1) ((rd_T43 l0 x13_1).f2) ((rd_T43 l0 x13_1).f3) ((rd_T43 l0 x13_1).f4) ((rd_T43 l0 x13_1).f5) ((rd_T43 l0 x13_1).f6)) = some (r1, r2) := by first | (rw [hy117]; with_reducible exact H) | (have H2_ := (Zsa _ _).symm.trans H; rw [hy117]; with_reducible exact H2_) | (have H2_ := (Zsa _ _).symm.trans H; with_reducible exact H2_) | with_reducible exact H | (rw [hy117]; exact H) | exact H
           have Ny117 := Zma hy117
           clear hy117
           have H' := Zma H
           clear H
           have p105 : 0 ≤ (x54_3 : Int) := Zg (by first | (with_reducible assumption) | assumption)
           have q105 : x54_3 < (((rd_T43 l0 x13_1).f6).length : Int) := Zg (by first | (with_reducible assumption) | assumption)
           obtain ⟨ad105, A105_0, c105_0, e105, hx105_0, hl105_0, hi105_0⟩ := at_L3 HR101_6.out x54_3 p105 q105
           cases e105
           replace hx105_0 := (HB.out.cell (Zh w _ hx105_0)).trans hx105_0
           have HR105_0 := Zma hi105_0
           have HC105_0 := Zma hl105_0
           clear hi105_0 hl105_0
           replace p105 := Zja p105
           replace q105 := Zja q105
           obtain ⟨hcz48_0, hcz48_1, hcz48_2, hcz48_3, hcz48_4, hcz48_5, hcz48_6, hfz48_0, hfz48_1, hfz48_2, hfz48_3, hfz48_4, hfz48_5, hfz48_6⟩ := blk7 BK102.out
           go_wp2_with (first | ((with_reducible refine gate_dst (N := 78) rfl ?_); (try (refine gate_guard (by rfl) ?_; dsimp only)); refine Kd.R_lit (Kd.int .u8) _ 5 ?hg (N := 78) ?hd (xs := ([] : List Int)) (inner := []) (ok := fun _ => True) (okp := fun _ => True) ?hr ?hp (fun _ hk => hk) trivial (Below.refl _ _) (Zra _) (by simp) ?_; (case hd => rfl); (case hg => rfl); (case hr => first | (go_simp; done) | (go_simp; rfl)); (case hp => exact (Reps.none _ _)); intro v112 w49 ho50 hb hg_ hnew_; clear hg_ hnew_; (first | rw [← Ny111.out] at ho50 | (simp only [Int.reduceToNat] at ho50; rw [← Ny111.out] at ho50)); have n0_ := Zma (Kd.S_elder' (sq HO_4.out) (Kd.R_base ho50) hb); have n1_ := Zma (Zxa ho50 (Zfa bq)); have n2_ := Zma (Zab (g := gb102) (o := .cells #[.int .i64 ((rd_T43 l0 x13_1).f0), .int .i64 ((rd_T43 l0 x13_1).f1), .bool ((rd_T43 l0 x13_1).f2), .bool ((rd_T43 l0 x13_1).f3), .bool ((rd_T43 l0 x13_1).f4), .bool ((rd_T43 l0 x13_1).f5), .slice (some ad105) ((rd_T43 l0 x13_1).f6).length c101_6] 43 (0, 0)) (kq BK102.out) hb); have n3_ := Zma (Zoa bq hb); clear HO_4 BK102 HB; have HO_4 := n0_; have HO113 := n1_; have BK102 := n2_; have HB := n3_; clear n0_ n1_ n2_ n3_ hb ho50) | ((with_reducible refine gate_builtin (b := .append) (xs := #[.tmp 78, .tmp 79]) rfl ?_); (try (refine gate_guard (by rfl) ?_; dsimp only)); at_builtin; refine Kd.R_append_rows (Kd.int .u8) (w0 := w) w.heap.size rfl (.tmp 78) (.tmp 79) 28 5 (.int .u8 0) 1 rfl Try.underlying28 info5 rfl (by decide) (by omega) v112 y111 (rd_L3 ((rd_T43 l0 x13_1).f6) x54_3) _ _ _ (fun _ => True) (fun _ => False) rfl rfl ?aO ?aR (fun _ _ h => h) (fun _ h => h.elim) ?aF ?aB ?aS ?aL ?_; (case aR => exact cq ((Kd.C_below HR105_0.out HB.out))); (case aB => exact bq); (case aF => exact (fun _ _ => trivial)); (case aO => exact (rq HO113.out)); (case aS => exact (Zfa bq)); (case aL => have := LMc46.out; omega); intro v115 w51 ho hb hg hat; rw [← Ny114.out] at ho; have n0_ := Zma (Kd.S_after (ok := (fun _ => True)) (sq HO_4.out) hg hat); have n1_ := Zma (blk_grown (g := gb102) (o := .cells #[.int .i64 ((rd_T43 l0 x13_1).f0), .int .i64 ((rd_T43 l0 x13_1).f1), .bool ((rd_T43 l0 x13_1).f2), .bool ((rd_T43 l0 x13_1).f3), .bool ((rd_T43 l0 x13_1).f4), .bool ((rd_T43 l0 x13_1).f5), .slice (some ad105) ((rd_T43 l0 x13_1).f6).length c101_6] 43 (0, 0)) (kq BK102.out) hg (Kd.R_ne HO113.out BK102.out (by decide))); have n2_ := Zma (hb); have n3_ := Zma (ho); clear HO_4 BK102 HB HO113; have HO_4 := n0_; have BK102 := n1_; have HB := n2_; have HO116 := n3_; clear n0_ n1_ n2_ n3_ ho hb hg hat; obtain ⟨Ao53, co53, eo53⟩ := Kd.R_slice HO116.out; subst eo53) | ((with_reducible refine gate_builtin (b := .append) (xs := #[.tmp 77, .tmp 81]) rfl ?_); (try (refine gate_guard (by rfl) ?_; dsimp only)); at_builtin; refine Kd.S_append (Kd.slice 5 (Kd.int .u8)) (w0 := w) w.heap.size rfl (.tmp 77) (.tmp 81) 41 28 (.slice none 0 0) 24 rfl Try.underlying41 info28 rfl (by decide) (by omega) u4 x4_3 y114 [.slice Ao53 y114.length co53] (fun _ => True) (fun k_ => some k_ = (.slice Ao53 y114.length co53 : Value).ownBlock) rfl rfl ?aP (fun k_ hk_ => ((Kd.R_mono (ok' := fun k_ => ((fun _ => True)) k_ ∧ some k_ ≠ (u4 : Value).ownBlock) (Kd.R_apart' (HO116.out) (Kd.S_typed HO_4.out) (by decide)) (fun k_ hk => ⟨trivial, hk.2⟩))).1 k_ hk_.symm) ?aF ?aO ?aB ?aS ?aL ?_; (case aP => exact Kd.M_row (Kd.R_mono (Kd.R_tight rfl (Kd.R_mono (ok' := fun k_ => ((fun _ => True)) k_ ∧ some k_ ≠ (u4 : Value).ownBlock) (Kd.R_apart' (HO116.out) (Kd.S_typed HO_4.out) (by decide)) (fun k_ hk => ⟨trivial, hk.2⟩))) (fun _ h_ => h_))); (case aB => exact bq); (case aF => exact (fun _ _ => trivial)); (case aO => exact (by refine sq ?_; exact Kd.S_mono HO_4.out (fun k_ hk => ⟨trivial, fun e_ => hk.2 e_⟩))); (case aS => exact (Zfa bq)); (case aL => have := LMc47.out; omega); intro v118 w52 ho hb hg hat; rw [← Ny117.out] at ho; have n0_ := Zma (blk_grown (g := gb102) (o := .cells #[.int .i64 ((rd_T43 l0 x13_1).f0), .int .i64 ((rd_T43 l0 x13_1).f1), .bool ((rd_T43 l0 x13_1).f2), .bool ((rd_T43 l0 x13_1).f3), .bool ((rd_T43 l0 x13_1).f4), .bool ((rd_T43 l0 x13_1).f5), .slice (some ad105) ((rd_T43 l0 x13_1).f6).length c101_6] 43 (0, 0)) (kq BK102.out) hg (Kd.S_ne HO_4.out BK102.out (by decide))); have n1_ := Zma (hb); have n2_ := Zma (ho); clear BK102 HB HO_4 HO116; have BK102 := n0_; have HB := n1_; have HO119 := n2_; clear n0_ n1_ n2_ ho hb hg hat))
           go_roundg k3
           case measure => have := HK1.out; have := HJ6.out; have := HK3.out; omega
           case rel => exact ⟨(y117), (wrap64 (x54_3 + 1)), (by first | rfl | (simp; done) | (simp [*]; done)), H', ⟨by have := HK1.out; have := HJ6.out; have := HK3.out; omega⟩, ⟨sq HO119.out⟩, ⟨kq BK102.out⟩, ⟨bq⟩⟩
          rw [if_neg c32] at H
          have c32b0 : (x54_3 == 0) = false := beq_eq_false_iff_ne.mpr c32
          have c32b1 : (x54_3 != 0) = true := bne_iff_ne.mpr c32
          obtain ⟨y120, hy120⟩ : ∃ y_ : List Int, y_ = (([] : List Int)) := ⟨_, rfl⟩
          replace H : (if y120.length + (rd_L3 ((rd_T43 l0 x13_1).f6) x54_3).length < 140737488355328 then (if x4_3.length < 5864062014805 then (page_Join_raw.l1 k3 l0 (x4_3 ++ [(y120 ++ (rd_L3 ((rd_T43 l0 x13_1).f6) x54_3))]) l0 (l0.length : Int) x13_1 ((rd_T43 l0 x13_1).f6) (((rd_T43 l0 x13_1).f6).length : Int) (wrap64 (x54_3 + 1)) ((rd_T43 l0 x13_1).f0) ((rd_T43 l0 x13_1).f1) ((rd_T43 l0 x13_1).f2) ((rd_T43 l0 x13_1).f3) ((rd_T43 l0 x13_1).f4) ((rd_T43 l0 x13_1).f5) ((rd_T43 l0 x13_1).f6)) else (none)) else (none)) = some (r1, r2) := by first | (rw [hy120]; with_reducible exact H) | (have H2_ := (Zsa _ _).symm.trans H; rw [hy120]; with_reducible exact H2_) | (have H2_ := (Zsa _ _).symm.trans H; with_reducible exact H2_) | with_reducible exact H | (rw [hy120]; exact H) | exact H
          have Ny120 := Zma hy120
          clear hy120
          by_cases c54 : y120.length + (rd_L3 ((rd_T43 l0 x13_1).f6) x54_3).length < 140737488355328
          rotate_left
          ·rw [if_neg c54] at H
           exact absurd H (by simp)
          rw [if_pos c54] at H
          have LMc54 := Zma c54
          clear c54
          obtain ⟨y123, hy123⟩ : ∃ y_ : List Int, y_ = (y120 ++ (rd_L3 ((rd_T43 l0 x13_1).f6) x54_3)) := ⟨_, rfl⟩
          replace H : (if x4_3.length < 5864062014805 then (page_Join_raw.l1 k3 l0 (x4_3 ++ [y123]) l0 (l0.length : Int) x13_1 ((rd_T43 l0 x13_1).f6) (((rd_T43 l0 x13_1).f6).length : Int) (wrap64 (x54_3 + 1)) ((rd_T43 l0 x13_1).f0) ((rd_T43 l0 x13_1).f1) ((rd_T43 l0 x13_1).f2) ((rd_T43 l0 x13_1).f3) ((rd_T43 l0 x13_1).f4) ((rd_T43 l0 x13_1).f5) ((rd_T43 l0 x13_1).f6)) else (none)) = some (r1, r2) := by first | (rw [hy123]; with_reducible exact H) | (have H2_ := (Zsa _ _).symm.trans H; rw [hy123]; with_reducible exact H2_) | (have H2_ := (Zsa _ _).symm.trans H; with_reducible exact H2_) | with_reducible exact H | (rw [hy123]; exact H) | exact H
          have Ny123 := Zma hy123
          clear hy123
          by_cases c55 : x4_3.length < 5864062014805
          rotate_left
          ·rw [if_neg c55] at H
           exact absurd H (by simp)
          rw [if_pos c55] at H
          have LMc55 := Zma c55
          clear c55
          obtain ⟨y126, hy126⟩ : ∃ y_ : List (List Int), y_ = (x4_3 ++ [y123]) := ⟨_, rfl⟩
          replace H : (page_Join_raw.l1 k3 l0 y126 l0 (l0.length : Int) x13_1 ((rd_T43 l0 x13_1).f6) (((rd_T43 l0 x13_1).f6).length : Int) (wrap64 (x54_3 + 1)) ((rd_T43 l0 x13_1).f0) ((rd_T43 l0 x13_1).f1) ((rd_T43 l0 x13_1).f2) ((rd_T43 l0 x13_1).f3) ((rd_T43 l0 x13_1).f4) ((rd_T43 l0 x13_1).f5) ((rd_T43 l0 x13_1).f6)) = some (r1, r2) := by first | (rw [hy126]; with_reducible exact H) | (have H2_ := (Zsa _ _).symm.trans H; rw [hy126]; with_reducible exact H2_) | (have H2_ := (Zsa _ _).symm.trans H; with_reducible exact H2_) | with_reducible exact H | (rw [hy126]; exact H) | exact H
          have Ny126 := Zma hy126
          clear hy126
          have H' := Zma H
          clear H
          have p105 : 0 ≤ (x54_3 : Int) := Zg (by first | (with_reducible assumption) | assumption)
          have q105 : x54_3 < (((rd_T43 l0 x13_1).f6).length : Int) := Zg (by first | (with_reducible assumption) | assumption)
          obtain ⟨ad105, A105_0, c105_0, e105, hx105_0, hl105_0, hi105_0⟩ := at_L3 HR101_6.out x54_3 p105 q105
          cases e105
          replace hx105_0 := (HB.out.cell (Zh w _ hx105_0)).trans hx105_0
          have HR105_0 := Zma hi105_0
          have HC105_0 := Zma hl105_0
          clear hi105_0 hl105_0
          replace p105 := Zja p105
          replace q105 := Zja q105
          go_wp2_with (first | ((with_reducible refine gate_dst (N := 78) rfl ?_); (try (refine gate_guard (by rfl) ?_; dsimp only)); refine Kd.R_lit (Kd.int .u8) _ 5 ?hg (N := 78) ?hd (xs := ([] : List Int)) (inner := []) (ok := fun _ => True) (okp := fun _ => True) ?hr ?hp (fun _ hk => hk) trivial (Below.refl _ _) (Zra _) (by simp) ?_; (case hd => rfl); (case hg => rfl); (case hr => first | (go_simp; done) | (go_simp; rfl)); (case hp => exact (Reps.none _ _)); intro v121 w56 ho57 hb hg_ hnew_; clear hg_ hnew_; (first | rw [← Ny120.out] at ho57 | (simp only [Int.reduceToNat] at ho57; rw [← Ny120.out] at ho57)); have n0_ := Zma (Kd.S_elder' (sq HO_4.out) (Kd.R_base ho57) hb); have n1_ := Zma (Zxa ho57 (Zfa bq)); have n2_ := Zma (Zab (g := gb102) (o := .cells #[.int .i64 ((rd_T43 l0 x13_1).f0), .int .i64 ((rd_T43 l0 x13_1).f1), .bool ((rd_T43 l0 x13_1).f2), .bool ((rd_T43 l0 x13_1).f3), .bool ((rd_T43 l0 x13_1).f4), .bool ((rd_T43 l0 x13_1).f5), .slice (some ad105) ((rd_T43 l0 x13_1).f6).length c101_6] 43 (0, 0)) (kq BK102.out) hb); have n3_ := Zma (Zoa bq hb); clear HO_4 BK102 HB; have HO_4 := n0_; have HO122 := n1_; have BK102 := n2_; have HB := n3_; clear n0_ n1_ n2_ n3_ hb ho57) | ((with_reducible refine gate_builtin (b := .append) (xs := #[.tmp 78, .tmp 79]) rfl ?_); (try (refine gate_guard (by rfl) ?_; dsimp only)); at_builtin; refine Kd.R_append_rows (Kd.int .u8) (w0 := w) w.heap.size rfl (.tmp 78) (.tmp 79) 28 5 (.int .u8 0) 1 rfl Try.underlying28 info5 rfl (by decide) (by omega) v121 y120 (rd_L3 ((rd_T43 l0 x13_1).f6) x54_3) _ _ _ (fun _ => True) (fun _ => False) rfl rfl ?aO ?aR (fun _ _ h => h) (fun _ h => h.elim) ?aF ?aB ?aS ?aL ?_; (case aR => exact cq ((Kd.C_below HR105_0.out HB.out))); (case aB => exact bq); (case aF => exact (fun _ _ => trivial)); (case aO => exact (rq HO122.out)); (case aS => exact (Zfa bq)); (case aL => have := LMc54.out; omega); intro v124 w58 ho hb hg hat; rw [← Ny123.out] at ho; have n0_ := Zma (Kd.S_after (ok := (fun _ => True)) (sq HO_4.out) hg hat); have n1_ := Zma (blk_grown (g := gb102) (o := .cells #[.int .i64 ((rd_T43 l0 x13_1).f0), .int .i64 ((rd_T43 l0 x13_1).f1), .bool ((rd_T43 l0 x13_1).f2), .bool ((rd_T43 l0 x13_1).f3), .bool ((rd_T43 l0 x13_1).f4), .bool ((rd_T43 l0 x13_1).f5), .slice (some ad105) ((rd_T43 l0 x13_1).f6).length c101_6] 43 (0, 0)) (kq BK102.out) hg (Kd.R_ne HO122.out BK102.out (by decide))); have n2_ := Zma (hb); have n3_ := Zma (ho); clear HO_4 BK102 HB HO122; have HO_4 := n0_; have BK102 := n1_; have HB := n2_; have HO125 := n3_; clear n0_ n1_ n2_ n3_ ho hb hg hat; obtain ⟨Ao60, co60, eo60⟩ := Kd.R_slice HO125.out; subst eo60) | ((with_reducible refine gate_builtin (b := .append) (xs := #[.tmp 77, .tmp 81]) rfl ?_); (try (refine gate_guard (by rfl) ?_; dsimp only)); at_builtin; refine Kd.S_append (Kd.slice 5 (Kd.int .u8)) (w0 := w) w.heap.size rfl (.tmp 77) (.tmp 81) 41 28 (.slice none 0 0) 24 rfl Try.underlying41 info28 rfl (by decide) (by omega) u4 x4_3 y123 [.slice Ao60 y123.length co60] (fun _ => True) (fun k_ => some k_ = (.slice Ao60 y123.length co60 : Value).ownBlock) rfl rfl ?aP (fun k_ hk_ => ((Kd.R_mono (ok' := fun k_ => ((fun _ => True)) k_ ∧ some k_ ≠ (u4 : Value).ownBlock) (Kd.R_apart' (HO125.out) (Kd.S_typed HO_4.out) (by decide)) (fun k_ hk => ⟨trivial, hk.2⟩))).1 k_ hk_.symm) ?aF ?aO ?aB ?aS ?aL ?_; (case aP => exact Kd.M_row (Kd.R_mono (Kd.R_tight rfl (Kd.R_mono (ok' := fun k_ => ((fun _ => True)) k_ ∧ some k_ ≠ (u4 : Value).ownBlock) (Kd.R_apart' (HO125.out) (Kd.S_typed HO_4.out) (by decide)) (fun k_ hk => ⟨trivial, hk.2⟩))) (fun _ h_ => h_))); (case aB => exact bq); (case aF => exact (fun _ _ => trivial)); (case aO => exact (by refine sq ?_; exact Kd.S_mono HO_4.out (fun k_ hk => ⟨trivial, fun e_ => hk.2 e_⟩))); (case aS => exact (Zfa bq)); (case aL => have := LMc55.out; omega); intro v127 w59 ho hb hg hat; rw [← Ny126.out] at ho; have n0_ := Zma (blk_grown (g := gb102) (o := .cells #[.int .i64 ((rd_T43 l0 x13_1).f0), .int .i64 ((rd_T43 l0 x13_1).f1), .bool ((rd_T43 l0 x13_1).f2), .bool ((rd_T43 l0 x13_1).f3), .bool ((rd_T43 l0 x13_1).f4), .bool ((rd_T43 l0 x13_1).f5), .slice (some ad105) ((rd_T43 l0 x13_1).f6).length c101_6] 43 (0, 0)) (kq BK102.out) hg (Kd.S_ne HO_4.out BK102.out (by decide))); have n1_ := Zma (hb); have n2_ := Zma (ho); clear BK102 HB HO_4 HO125; have BK102 := n0_; have HB := n1_; have HO128 := n2_; clear n0_ n1_ n2_ ho hb hg hat))
          go_roundg k3
          case measure => have := HK1.out; have := HJ6.out; have := HK3.out; omega
          case rel => exact ⟨(y126), (wrap64 (x54_3 + 1)), (by first | rfl | (simp; done) | (simp [*]; done)), H', ⟨by have := HK1.out; have := HJ6.out; have := HK3.out; omega⟩, ⟨sq HO128.out⟩, ⟨kq BK102.out⟩, ⟨bq⟩⟩
         rw [if_neg c29] at H
         have c29b0 : decide (x54_3 < (((rd_T43 l0 x13_1).f6).length : Int)) = false := Zna c29
         clear c29
         have H' := Zma H
         clear H
         obtain ⟨hcz61_0, hcz61_1, hcz61_2, hcz61_3, hcz61_4, hcz61_5, hcz61_6, hfz61_0, hfz61_1, hfz61_2, hfz61_3, hfz61_4, hfz61_5, hfz61_6⟩ := blk7 BK102.out
         go_wp2
         repeat (go_quiet (fail); try go_wp2)
         go_roundg k3
         case measure => have := HK1.out; have := HJ6.out; have := HK3.out; omega
         case rel => exact ⟨(x4_3), (((rd_T43 l0 x13_1).f5)), (wrap64 (x13_1 + 1)), (by first | rfl | (simp; done) | (simp [*]; done)), (by first | rfl | (simp; done) | (simp [*]; done)), H', ⟨by have := HK1.out; have := HJ6.out; have := HK3.out; omega⟩, ⟨sq HO_4.out⟩, ⟨bq⟩⟩
    replace c6 := Bool.eq_false_iff.mpr c6
    subst c6
    have H1 : (some (([] : List (List Int)), 1)) = some (r1, r2) := by rw [if_neg (show ¬ (false = true) by decide)] at H; exact H
    clear H
    have H := H1
    clear H1
    simp only [Zib, Zhb] at H
    obtain ⟨rfl, rfl⟩ := H
    have p101 : 0 ≤ (x13_1 : Int) := Zg (by first | (with_reducible assumption) | assumption)
    have q101 : x13_1 < (l0.length : Int) := Zg (by first | (with_reducible assumption) | assumption)
    obtain ⟨ad101, A101_6, c101_6, e101, hx101_0, hx101_1, hx101_2, hx101_3, hx101_4, hx101_5, hx101_6, hl101_6, hi101_6⟩ := at_T43 HR0.out x13_1 p101 q101
    cases e101
    replace hx101_0 := (HB.out.cell (Zh w _ hx101_0)).trans hx101_0
    replace hx101_1 := (HB.out.cell (Zh w _ hx101_1)).trans hx101_1
    replace hx101_2 := (HB.out.cell (Zh w _ hx101_2)).trans hx101_2
    replace hx101_3 := (HB.out.cell (Zh w _ hx101_3)).trans hx101_3
    replace hx101_4 := (HB.out.cell (Zh w _ hx101_4)).trans hx101_4
    replace hx101_5 := (HB.out.cell (Zh w _ hx101_5)).trans hx101_5
    replace hx101_6 := (HB.out.cell (Zh w _ hx101_6)).trans hx101_6
    have HR101_6 := Zma hi101_6
    have HC101_6 := Zma hl101_6
    clear hi101_6 hl101_6
    replace p101 := Zja p101
    replace q101 := Zja q101
    go_wp2_with (first | ((with_reducible refine gate_dst (N := 7) rfl ?_); (try (refine gate_guard (by rfl) ?_; dsimp only)); refine box_event ?hg (N := 7) ?hd (cs := #[.int .i64 0, .int .i64 0, .bool false, .bool false, .bool false, .bool false, .slice none 0 0]) (t := 43) ?hr ?_; (case hd => rfl); (case hg => rfl); (case hr => first | (go_simp; done) | (go_simp; rfl)); intro gb102 hg w62 hbox hb; have n0_ := Zma (Kd.S_below (sq HO_4.out) hb); have n1_ := Zma (Zoa bq hb); have n2_ := Zma (hbox); have n3_ := Zma ((by rw [hg]; exact (Zfa bq) : w.heap.size ≤ gb102)); have n4_ := Zma ((by rw [hg]; exact (Zfa bq) : w.heap.size ≤ gb102)); clear HO_4 HB; have HO_4 := n0_; have HB := n1_; have BK102 := n2_; have GW102 := n3_; have GE102 := n4_; clear n0_ n1_ n2_ n3_ n4_ hb hbox hg; have hcz63_0 : w62.cell? ⟨gb102, 0, none⟩ = some (.int .i64 0) := (Zd BK102.out 0).trans rfl; have hcz63_1 : w62.cell? ⟨gb102, 1, none⟩ = some (.int .i64 0) := (Zd BK102.out 1).trans rfl; have hcz63_2 : w62.cell? ⟨gb102, 2, none⟩ = some (.bool false) := (Zd BK102.out 2).trans rfl; have hcz63_3 : w62.cell? ⟨gb102, 3, none⟩ = some (.bool false) := (Zd BK102.out 3).trans rfl; have hcz63_4 : w62.cell? ⟨gb102, 4, none⟩ = some (.bool false) := (Zd BK102.out 4).trans rfl; have hcz63_5 : w62.cell? ⟨gb102, 5, none⟩ = some (.bool false) := (by first | exact (Zd BK102.out 5).trans rfl | (refine (Zd BK102.out 5).trans ?_; show some (Value.bool _) = some (Value.bool _); congr 2; first | (with_reducible assumption) | exact Eq.symm (Aside0.out (by with_reducible assumption)))); obtain ⟨-, -, -, -, -, -, hcz63_6, hfz63_0, hfz63_1, hfz63_2, hfz63_3, hfz63_4, hfz63_5, hfz63_6⟩ := blk7 BK102.out) | (go_at_call 54; (with_reducible refine (page_Right.calls ((rd_T43 l0 x13_1).f0) ((rd_T43 l0 x13_1).f1) ((rd_T43 l0 x13_1).f2) ((rd_T43 l0 x13_1).f3) ((rd_T43 l0 x13_1).f4) ((rd_T43 l0 x13_1).f5) _ _ ((rd_T43 l0 x13_1).f6) false _ ?side1 ?side2 A5.out).mono ?_); (case side1 => exact Kd.C_below HR101_6.out bq); (case side2 => exact HC101_6.out); rintro e w64 ⟨rfl, hb⟩; have n0_ := Zma (Kd.S_below (by refine sq ?_; exact (Kd.S_mono (Kd.S_far (p := ⟨gb102, 6, none⟩) (Kd.S_far (p := ⟨gb102, 5, none⟩) (Kd.S_far (p := ⟨gb102, 4, none⟩) (Kd.S_far (p := ⟨gb102, 3, none⟩) (Kd.S_far (p := ⟨gb102, 2, none⟩) (Kd.S_far (p := ⟨gb102, 1, none⟩) (Kd.S_far (p := ⟨gb102, 0, none⟩) (Kd.S_types HO_4.out BK102.out (by decide)) (fun _ hk => hk.2) (.int .i64 ((rd_T43 l0 x13_1).f0))) (fun _ hk => hk.2) (.int .i64 ((rd_T43 l0 x13_1).f1))) (fun _ hk => hk.2) (.bool ((rd_T43 l0 x13_1).f2))) (fun _ hk => hk.2) (.bool ((rd_T43 l0 x13_1).f3))) (fun _ hk => hk.2) (.bool ((rd_T43 l0 x13_1).f4))) (fun _ hk => hk.2) (.bool ((rd_T43 l0 x13_1).f5))) (fun _ hk => hk.2) (.slice A101_6 ((rd_T43 l0 x13_1).f6).length c101_6)) (fun _ h_ => h_.1))) hb); have n1_ := Zma (Zab (g := gb102) (o := .cells #[.int .i64 ((rd_T43 l0 x13_1).f0), .int .i64 ((rd_T43 l0 x13_1).f1), .bool ((rd_T43 l0 x13_1).f2), .bool ((rd_T43 l0 x13_1).f3), .bool ((rd_T43 l0 x13_1).f4), .bool ((rd_T43 l0 x13_1).f5), .slice A101_6 ((rd_T43 l0 x13_1).f6).length c101_6] 43 (0, 0)) (by refine kq ?_; exact put7 (kq BK102.out)) hb); have n2_ := Zma (Zoa bq hb); clear HO_4 BK102 HB; have HO_4 := n0_; have BK102 := n1_; have HB := n2_; clear n0_ n1_ n2_; (try clear hb); (try clear hb2); (try clear hk); (try clear hi)))
    go_ret2
    exact ⟨_, by first | rfl | (simp [errW_none, errW_some] <;> rfl) | (simp [*, errW_none, errW_some] <;> rfl), by first | exact Kd.S_nil _ _ _ _ _ | exact Kd.N_nil _ _ _ _ _ | exact Kd.V_nil _ _ _ _ _ | exact Kd.Q_nil _ _ _ _ _ | exact Kd.R_nil _ _ _ _ _, bq⟩
   rw [if_neg c2] at H
   have c2b0 : decide (x13_1 < (l0.length : Int)) = false := Zna c2
   clear c2
   by_cases c65 : x5_1 = true
   ·subst c65
    have H1 : (some (([] : List (List Int)), 7)) = some (r1, r2) := by rw [if_pos rfl] at H; exact H
    clear H
    have H := H1
    clear H1
    simp only [Zib, Zhb] at H
    obtain ⟨rfl, rfl⟩ := H
    go_wp2
    repeat (go_quiet (fail); try go_wp2)
    go_ret2
    exact ⟨_, by first | rfl | (simp [errW_none, errW_some] <;> rfl) | (simp [*, errW_none, errW_some] <;> rfl), by first | exact Kd.S_nil _ _ _ _ _ | exact Kd.N_nil _ _ _ _ _ | exact Kd.V_nil _ _ _ _ _ | exact Kd.Q_nil _ _ _ _ _ | exact Kd.R_nil _ _ _ _ _, bq⟩
   replace c65 := Bool.eq_false_iff.mpr c65
   subst c65
   have H1 : (some (x4_1, 0)) = some (r1, r2) := by rw [if_neg (show ¬ (false = true) by decide)] at H; exact H
   clear H
   have H := H1
   clear H1
   simp only [Zib, Zhb] at H
   obtain ⟨rfl, rfl⟩ := H
   go_wp2
   repeat (go_quiet (fail); try go_wp2)
   go_ret2
   exact ⟨_, by first | rfl | (simp [errW_none, errW_some] <;> rfl) | (simp [*, errW_none, errW_some] <;> rfl), sq HO_4.out, bq⟩

def page_Join.f (l : List S43) : Option (List (List Int) × Int) := if l.length ≤ 100 ∧ ∀ p ∈ l, smallP p.f6 then some (joinGo l none false []) else none
theorem flatten_small (p : List (List Int)) (h : ∀ b ∈ p, b.length ≤ 70000) : p.flatten.length ≤ 70000 * p.length := by
  induction p with
  | nil => simp
  | cons b r ih =>
    have h1 := h b (by simp)
    have h2 := ih (fun x hx => h x (by simp [hx]))
    rw [List.flatten_cons, List.length_append, List.length_cons]
    omega
theorem mem_flatten_le (p : List (List Int)) (b : List Int) (h : b ∈ p) : b.length ≤ p.flatten.length := by
  induction p with
  | nil => cases h
  | cons c r ih =>
    rw [List.flatten_cons, List.length_append]
    rcases List.mem_cons.mp h with rfl | h
    · omega
    · have := ih h
      omega
theorem page_Join_l1 (l0 : List S43) (P : List (List Int)) (i : Int) (s g : Int) (fi la co mo : Bool) (out : List (List Int)) (R : List (List Int) × Int) (hs : smallP P) (ho : out.length ≤ 1000000) (hf : out.flatten.length ≤ 100000000000) (hc : co = true → out ≠ [])
    (H : Ev (fun k => page_Join_raw.l0 k l0 (addParts out co P) mo l0 (l0.length : Int) (wrap64 (i + 1))) R) :
    Ev (fun k => page_Join_raw.l1 k l0 out l0 (l0.length : Int) i P (P.length : Int) 0 s g fi la co mo P) R := by
  have hn := hs.1
  have tail : ∀ (d m : Nat) (z : List (List Int)), 1 ≤ m → m ≤ P.length → P.length - m = d → z.length ≤ 2000000 + m → z ++ P.drop m = addParts out co P → Ev (fun k => page_Join_raw.l1 k l0 z l0 (l0.length : Int) i P (P.length : Int) (m : Int) s g fi la co mo P) R := by
    intro d
    induction d with
    | zero =>
      intro m z h1 hm hd hz he
      obtain rfl : m = P.length := by omega
      rw [List.drop_length, List.append_nil] at he
      subst he
      refine Ev.step (fun k => ?_) H
      simp only [page_Join_raw.l1]
      rw [if_neg (Int.lt_irrefl _)]
    | succ d ih =>
      intro m z h1 hm hd hz he
      have hm1 : m < P.length := by omega
      have g1 : (m : Int) < (P.length : Int) := by omega
      have g2 : (0 : Int) ≤ (m : Int) := by omega
      have g3 : ¬ (m : Int) = 0 := by omega
      have hb := hs.2 _ (rd_L3_mem P m hm1)
      have g4 : ([] : List Int).length + (rd_L3 P (m : Int)).length < 140737488355328 := by rw [List.length_nil]; omega
      have g5 : z.length < 5864062014805 := by omega
      have e2A : Aside0 (wrap64 ((m : Int) + 1) = ((m + 1 : Nat) : Int)) := ⟨wsucc m (by omega)⟩
      rw [drop_cons P m hm1] at he
      have he' : (z ++ [rd_L3 P (m : Int)]) ++ P.drop (m + 1) = addParts out co P := by rw [List.append_assoc]; exact he
      refine Ev.step (fun k => ?_) (ih (m + 1) _ (by omega) (by omega) (by omega) (by rw [List.length_append, List.length_singleton]; omega) he')
      simp only [page_Join_raw.l1]
      rw [if_pos g1, if_pos g2, if_pos g1, if_neg g3, Zsa, if_pos g4, if_pos g5, List.nil_append, e2A.out]
  cases P with
  | nil =>
    refine Ev.step (fun k => ?_) H
    simp only [page_Join_raw.l1]
    rw [if_neg (by decide)]
    rfl
  | cons b r =>
    have hb := hs.2 b (by simp)
    have g1 : (0 : Int) < ((b :: r).length : Int) := by simp only [List.length_cons]; omega
    have rb : rd_L3 (b :: r) 0 = b := rfl
    have e1A : Aside0 (wrap64 (0 + 1) = ((1 : Nat) : Int)) := ⟨by rw [wrap64_of (by omega) (by omega)]; rfl⟩
    cases co with
    | false =>
      have g4 : ([] : List Int).length + b.length < 140737488355328 := by rw [List.length_nil]; omega
      have g5 : out.length < 5864062014805 := by omega
      refine Ev.step (fun k => ?_) (tail (r.length) 1 (out ++ [b]) (by omega) (by simp) (by simp) (by rw [List.length_append, List.length_singleton]; omega) (by simp [addParts]))
      simp only [page_Join_raw.l1, rb]
      rw [if_pos g1, if_pos (by decide), if_pos g1, if_pos trivial, if_neg (by simp), Zsa, if_pos g4, if_pos g5, List.nil_append, e1A.out]
    | true =>
      have hne := hc rfl
      have hpos : 0 < out.length := List.length_pos_iff.mpr hne
      have e3A : Aside0 (wrap64 ((out.length : Int) - 1) = (out.length : Int) - 1) := ⟨wrap64_of (by omega) (by omega)⟩
      have e4 : ((out.length : Int) - 1).toNat = out.length - 1 := by omega
      have g6 : (0 : Int) ≤ (out.length : Int) - 1 := by omega
      have g7 : (out.length : Int) - 1 < (out.length : Int) := by omega
      have hlast : (rd_L3 out ((out.length : Int) - 1)).length ≤ out.flatten.length := by
        have := rd_L3_mem out (out.length - 1) (by omega)
        rw [show ((out.length - 1 : Nat) : Int) = (out.length : Int) - 1 by omega] at this
        exact mem_flatten_le _ _ this
      have g8 : (rd_L3 out ((out.length : Int) - 1)).length + b.length < 140737488355328 := by omega
      refine Ev.step (fun k => ?_) (tail (r.length) 1 (out.set (out.length - 1) (rd_L3 out ((out.length : Int) - 1) ++ b)) (by omega) (by simp) (by simp) (by rw [List.length_set]; omega) (by simp [addParts]))
      simp only [page_Join_raw.l1, rb]
      rw [if_pos g1, if_pos (by decide), if_pos g1, if_pos trivial, if_pos trivial, e3A.out, if_pos g6, if_pos g7, if_pos g8, e4, e1A.out]
theorem page_Join.of {l : List S43} {r : List (List Int) × Int} (h : page_Join.f l = some r) : ∃ k, page_Join_raw.f k l = some r := by
  unfold page_Join.f at h
  split at h
  case isFalse => cases h
  case isTrue hs0 =>
    injection h with h
    subst h
    obtain ⟨hn, hs⟩ := hs0
    refine Ev.rounds ?_
    unfold page_Join_raw.f
    have go : ∀ (d j : Nat) (prev : Option Int) (o : Bool) (out : List (List Int)), j ≤ l.length → l.length - j = d → (prev = if j = 0 then none else some (rd_T43 l ((j : Int) - 1)).f0) → (∀ s, prev = some s → 0 ≤ s ∧ s ≤ 4294967295) → (o = true → out ≠ []) → out.length ≤ 1000 * j → out.flatten.length ≤ 70000000 * j →
        Ev (fun k => page_Join_raw.l0 k l out o l (l.length : Int) (j : Int)) (joinGo (l.drop j) prev o out) := by
      intro d
      induction d with
      | zero =>
        intro j prev o out hj hd hp hp2 ho hol hof
        obtain rfl : j = l.length := by omega
        rw [List.drop_length, joinGo]
        cases o with
        | true =>
          refine Ev.step (f := fun _ => some ([], 7)) (fun k => ?_) (Ev.now _)
          simp only [page_Join_raw.l0]
          rw [if_neg (Int.lt_irrefl _)]
          rfl
        | false =>
          refine Ev.step (f := fun _ => some (out, 0)) (fun k => ?_) (Ev.now _)
          simp only [page_Join_raw.l0]
          rw [if_neg (Int.lt_irrefl _)]
          rfl
      | succ d ih =>
        intro j prev o out hj hd hp hp2 ho hol hof
        have hj1 : j < l.length := by omega
        have g1 : (j : Int) < (l.length : Int) := by omega
        have g2 : (0 : Int) ≤ (j : Int) := by omega
        have hsm := hs _ (rd_T43_mem l j hj1)
        have e2A : Aside0 (wrap64 ((j : Int) + 1) = ((j + 1 : Nat) : Int)) := ⟨wsucc j (by omega)⟩
        have e3A : Aside0 (wrap64 ((j : Int) - 1) = (j : Int) - 1) := ⟨wrap64_of (by omega) (by omega)⟩
        rw [drop_T43 l j hj1, joinGo]
        have hR : page_Right.f (rd_T43 l (j : Int)).f0 (rd_T43 l (j : Int)).f1 (rd_T43 l (j : Int)).f2 (rd_T43 l (j : Int)).f3 (rd_T43 l (j : Int)).f4 (rd_T43 l (j : Int)).f5 (rd_T43 l (j : Int)).f6 = some (pageRight (rd_T43 l (j : Int)).f0 (rd_T43 l (j : Int)).f1 (rd_T43 l (j : Int)).f5 (rd_T43 l (j : Int)).f6) := by unfold page_Right.f; exact if_pos hsm
        have hnext : ∀ k, page_Join_raw.j1 (k + 1) l out l (l.length : Int) (j : Int) false (rd_T43 l (j : Int)).f0 (rd_T43 l (j : Int)).f1 (rd_T43 l (j : Int)).f2 (rd_T43 l (j : Int)).f3 (rd_T43 l (j : Int)).f4 (rd_T43 l (j : Int)).f5 (rd_T43 l (j : Int)).f6 = page_Join_raw.l1 k l out l (l.length : Int) (j : Int) (rd_T43 l (j : Int)).f6 ((rd_T43 l (j : Int)).f6.length : Int) 0 (rd_T43 l (j : Int)).f0 (rd_T43 l (j : Int)).f1 (rd_T43 l (j : Int)).f2 (rd_T43 l (j : Int)).f3 (rd_T43 l (j : Int)).f4 (rd_T43 l (j : Int)).f5 (rd_T43 l (j : Int)).f6 := fun k => by
          simp only [page_Join_raw.j1]
          rw [if_neg (by simp)]
        have hbad : ∀ k, page_Join_raw.j1 (k + 1) l out l (l.length : Int) (j : Int) true (rd_T43 l (j : Int)).f0 (rd_T43 l (j : Int)).f1 (rd_T43 l (j : Int)).f2 (rd_T43 l (j : Int)).f3 (rd_T43 l (j : Int)).f4 (rd_T43 l (j : Int)).f5 (rd_T43 l (j : Int)).f6 = some ([], 7) := fun k => by
          simp only [page_Join_raw.j1]
          rw [if_pos trivial]
        obtain ⟨p, hpj⟩ : ∃ p, rd_T43 l (j : Int) = p := ⟨_, rfl⟩
        rw [hpj] at hR hnext hbad hsm ⊢
        cases hr : pageRight p.f0 p.f1 p.f5 p.f6 with
        | false =>
          rw [if_pos rfl]
          refine Ev.step (f := fun _ => some ([], 1)) (fun k => ?_) (Ev.now _)
          simp only [page_Join_raw.l0]
          rw [if_pos g1, if_pos g2, if_pos g1, hpj, hR, Zsa, hr, if_neg (by simp)]
        | true =>
          rw [if_neg (by simp)]
          have hri := (pageRight_iff ..).mp hr
          -- what the test of the order says
          have htest : ∀ k, page_Join_raw.l0 (k + 2) l out o l (l.length : Int) (j : Int) = if (p.f4 != o) = true ∨ badNext prev p.f0 = true ∨ (p.f4 = true ∧ p.f6 = []) then some ([], 7) else page_Join_raw.l1 k l out l (l.length : Int) (j : Int) p.f6 (p.f6.length : Int) 0 p.f0 p.f1 p.f2 p.f3 p.f4 p.f5 p.f6 := fun k => by
            simp only [page_Join_raw.l0]
            rw [if_pos g1, if_pos g2, if_pos g1, hpj, hR, Zsa, hr, if_pos rfl]
            by_cases h1 : (p.f4 != o) = true
            · rw [if_pos h1, if_pos (.inl h1)]
              exact hbad k
            · rw [if_neg h1]
              have hlast : (if p.f4 = true then page_Join_raw.j1 (k + 1) l out l (l.length : Int) (j : Int) (((p.f6.length : Int)) == 0) p.f0 p.f1 p.f2 p.f3 p.f4 p.f5 p.f6 else page_Join_raw.j1 (k + 1) l out l (l.length : Int) (j : Int) false p.f0 p.f1 p.f2 p.f3 p.f4 p.f5 p.f6) = if (p.f4 = true ∧ p.f6 = []) then some ([], 7) else page_Join_raw.l1 k l out l (l.length : Int) (j : Int) p.f6 (p.f6.length : Int) 0 p.f0 p.f1 p.f2 p.f3 p.f4 p.f5 p.f6 := by
                by_cases hc : p.f4 = true
                · rw [if_pos hc]
                  by_cases he : p.f6 = []
                  · rw [if_pos ⟨hc, he⟩, show ((p.f6.length : Int) == 0) = true from beq_iff_eq.mpr (by rw [he]; rfl)]
                    exact hbad k
                  · have hl0 : 0 < p.f6.length := List.length_pos_iff.mpr he
                    rw [if_neg (fun h => he h.2), show ((p.f6.length : Int) == 0) = false from beq_eq_false_iff_ne.mpr (by omega)]
                    exact hnext k
                · rw [if_neg hc, if_neg (fun h => hc h.1)]
                  exact hnext k
              by_cases hj0 : j = 0
              · subst hj0
                have hpn : prev = none := by rw [hp]; rfl
                have hbn : badNext prev p.f0 = false := by rw [hpn]; rfl
                rw [if_neg (show ¬ ((0 : Nat) : Int) > 0 by omega), hlast]
                simp only [h1, hbn, false_or, Bool.false_eq_true]
              · have hps : prev = some (rd_T43 l ((j : Int) - 1)).f0 := by rw [hp, if_neg hj0]
                have hbn : badNext prev p.f0 = (p.f0 != (rd_T43 l ((j : Int) - 1)).f0 + 1) := by rw [hps]; rfl
                have hran := hp2 _ hps
                have e5A : Aside0 (wrap64 ((rd_T43 l ((j : Int) - 1)).f0 + 1) = (rd_T43 l ((j : Int) - 1)).f0 + 1) := ⟨wrap64_of (by omega) (by omega)⟩
                rw [if_pos (show (j : Int) > 0 by omega), e3A.out, if_pos (show (0 : Int) ≤ (j : Int) - 1 by omega), if_pos (show (j : Int) - 1 < (l.length : Int) by omega), e5A.out, hbn]
                by_cases h6 : p.f0 = (rd_T43 l ((j : Int) - 1)).f0 + 1
                · rw [if_pos h6, hlast]
                  have h7 : (p.f0 != (rd_T43 l ((j : Int) - 1)).f0 + 1) = false := bne_eq_false_iff_eq.mpr h6
                  simp only [h1, h7, false_or, Bool.false_eq_true]
                · rw [if_neg h6, if_pos (.inr (.inl (bne_iff_ne.mpr h6)))]
                  exact hbad k
          by_cases hx : (p.f4 != o) = true ∨ badNext prev p.f0 = true ∨ (p.f4 = true ∧ p.f6 = [])
          · rw [if_pos hx]
            exact ⟨2, fun k hk => by
              obtain ⟨m, rfl⟩ : ∃ m, k = m + 2 := ⟨k - 2, by omega⟩
              have := htest m
              rw [if_pos hx] at this
              exact this⟩
          · rw [if_neg hx]
            have hco : p.f4 = true → out ≠ [] := fun h => ho (by
              have : ¬ (p.f4 != o) = true := fun h' => hx (.inl h')
              rw [h] at this
              cases o with
              | true => rfl
              | false => exact absurd rfl this)
            have hal := addParts_length out p.f4 p.f6
            have haf := addParts_flatten out p.f4 p.f6 hco
            have hps := hsm.1
            have hfs := flatten_small p.f6 hsm.2
            have hnx : Ev (fun k => page_Join_raw.l0 k l (addParts out p.f4 p.f6) p.f5 l (l.length : Int) (wrap64 ((j : Int) + 1))) (joinGo (l.drop (j + 1)) (some p.f0) p.f5 (addParts out p.f4 p.f6)) := by
              rw [e2A.out]
              refine ih (j + 1) (some p.f0) p.f5 (addParts out p.f4 p.f6) (by omega) (by omega) ?_ ?_ ?_ ?_ ?_
              · rw [if_neg (by omega), show ((j + 1 : Nat) : Int) - 1 = (j : Int) by omega, hpj]
              · intro s hs'
                injection hs' with hs'
                subst hs'
                exact ⟨hri.1, hri.2.1⟩
              · intro hm he
                have h8 := (hri.2.2.2.2.2 hm).1
                have h9 := congrArg List.length he
                rw [hal, List.length_nil] at h9
                by_cases hc : p.f4 = true
                · have := List.length_pos_iff.mpr (hco hc)
                  split at h9 <;> omega
                · rw [if_neg (fun h => hc h.1)] at h9
                  omega
              · rw [hal]; omega
              · rw [haf, List.length_append]; omega
            have hfin := page_Join_l1 l p.f6 (j : Int) p.f0 p.f1 p.f2 p.f3 p.f4 p.f5 out _ hsm (by omega) (by omega) hco hnx
            obtain ⟨K, hK⟩ := hfin
            refine ⟨K + 2, fun k hk => ?_⟩
            obtain ⟨m, rfl⟩ : ∃ m, k = m + 2 := ⟨k - 2, by omega⟩
            have := htest m
            rw [if_neg hx] at this
            exact this.trans (hK m (by omega))
    exact go l.length 0 none false [] (by omega) (by omega) rfl (fun s h => by cases h) (fun h => by cases h) (by simp) (by simp)
theorem page_Join.calls (A0 : Option Addr) (c0 : Nat) (l0 : List (S43)) (r1 : List (List Int)) (r2 : Int) (w : World) (hr0 : Kd.C k43 w A0 l0.length l0) (hc0 : l0.length ≤ c0) (h : page_Join.f l0 = some (r1, r2)) :
  Calls Try.prog 38 #[.slice A0 l0.length c0] w fun e w' => ∃ v0_ : Value, e = .returned (.tuple #[v0_, .int .i64 r2]) ∧ Kd.S (Kd.slice 5 (Kd.int .u8)) 28 w' w.heap.size (fun _ => True) v0_ r1 ∧ Below w.heap.size w w' := by
  obtain ⟨k, hk⟩ := page_Join.of h
  exact page_Join_raw.calls k A0 c0 l0 r1 r2 w hr0 hc0 hk

end Go.Proofs.Yteoclecadpapfaa.G
