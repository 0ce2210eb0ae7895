/- What a call of psaltery/psalteryref18.Join does, told by a plain Lean function of its arguments. Written by a program for this claim. -/
import Derived.Test.YteoclecadpapfaaG0
import Derived.Test.YteoclecadpapfaaG38
import Derived.Test.YteoclecadpapfaaG55
import Derived.Test.YteoclecadpapfaaM13
import Derived.Test.YteoclecadpapfaaM23
namespace Go.Proofs.Yteoclecadpapfaa.G
open Go.RowKit Go.Proofs.YteoclecadpapfaaW.PrintWords Go.Proofs.YteoclecadpapfaaW.PrintLast Go.Proofs.YteoclecadpapfaaW.PrintMore
attribute [local go_sem] max2_int min2_int max_two min_two max_three min_three max_four min_four
set_option linter.unusedVariables false
set_option linter.unusedSimpArgs false

/-! ### psalteryref18_Join_raw: function 58 -/
mutual
def psalteryref18_Join_raw.l0 : Nat → List (S50) → List (List Int) → Int → Option ((List (List Int)) × Int)
 | 0, _, _, _ => none
 | k + 1, x0, x4, x5 => if x5 < (x0.length : Int) then (if 0 ≤ x5 then ((psalteryref18_Right.f ((rd_T50 x0 x5).f0) ((rd_T50 x0 x5).f1) ((rd_T50 x0 x5).f2) ((rd_T50 x0 x5).f3) ((rd_T50 x0 x5).f4) ((rd_T50 x0 x5).f5) ((rd_T50 x0 x5).f6)).bind fun t104 => (if t104 = true then (if x5 > 0 then (if 0 ≤ (wrap64 (x5 - 1)) then (if (wrap64 (x5 - 1)) < (x0.length : Int) then (psalteryref18_Join_raw.j1 k x0 x4 x5 ((rd_T50 x0 (wrap64 (x5 - 1))).f5) ((rd_T50 x0 x5).f0) ((rd_T50 x0 x5).f1) ((rd_T50 x0 x5).f2) ((rd_T50 x0 x5).f3) ((rd_T50 x0 x5).f4) ((rd_T50 x0 x5).f5) ((rd_T50 x0 x5).f6)) else (none)) else (none)) else (psalteryref18_Join_raw.j1 k x0 x4 x5 false ((rd_T50 x0 x5).f0) ((rd_T50 x0 x5).f1) ((rd_T50 x0 x5).f2) ((rd_T50 x0 x5).f3) ((rd_T50 x0 x5).f4) ((rd_T50 x0 x5).f5) ((rd_T50 x0 x5).f6))) else (some (([] : List (List Int)), 1)))) else (none)) else (if (x0.length : Int) > 0 then (if 0 ≤ (wrap64 ((x0.length : Int) - 1)) then (if (wrap64 ((x0.length : Int) - 1)) < (x0.length : Int) then (if (rd_T50 x0 (wrap64 ((x0.length : Int) - 1))).f5 = true then (some (([] : List (List Int)), 7)) else (some (x4, 0))) else (none)) else (none)) else (some (x4, 0)))
def psalteryref18_Join_raw.j1 : Nat → List (S50) → List (List Int) → Int → Bool → Int → Int → Bool → Bool → Bool → Bool → List (List Int) → Option ((List (List Int)) × Int)
 | 0, _, _, _, _, _, _, _, _, _, _, _ => none
 | k + 1, x0, x4, x5, x7, x104000, x104001, x104002, x104003, x104004, x104005, x104006 => if (x104004 != x7) = true then (psalteryref18_Join_raw.j2 k x0 x4 x5 true x104000 x104001 x104002 x104003 x104004 x104005 x104006) else (if x5 > 0 then (if 0 ≤ (wrap64 (x5 - 1)) then (if (wrap64 (x5 - 1)) < (x0.length : Int) then (if (wrap64 (x104000 - 1)) = ((rd_T50 x0 (wrap64 (x5 - 1))).f0) then (if x104004 = true then (psalteryref18_Join_raw.j2 k x0 x4 x5 ((x104006.length : Int) == 0) x104000 x104001 x104002 x104003 x104004 x104005 x104006) else (psalteryref18_Join_raw.j2 k x0 x4 x5 false x104000 x104001 x104002 x104003 x104004 x104005 x104006)) else (psalteryref18_Join_raw.j2 k x0 x4 x5 true x104000 x104001 x104002 x104003 x104004 x104005 x104006)) else (none)) else (none)) else (if x104004 = true then (psalteryref18_Join_raw.j2 k x0 x4 x5 ((x104006.length : Int) == 0) x104000 x104001 x104002 x104003 x104004 x104005 x104006) else (psalteryref18_Join_raw.j2 k x0 x4 x5 false x104000 x104001 x104002 x104003 x104004 x104005 x104006)))
def psalteryref18_Join_raw.j2 : Nat → List (S50) → List (List Int) → Int → Bool → Int → Int → Bool → Bool → Bool → Bool → List (List Int) → Option ((List (List Int)) × Int)
 | 0, _, _, _, _, _, _, _, _, _, _, _ => none
 | k + 1, x0, x4, x5, x62, x104000, x104001, x104002, x104003, x104004, x104005, x104006 => if x62 = true then (some (([] : List (List Int)), 7)) else (psalteryref18_Join_raw.l1 k x0 x4 x5 0 x104000 x104001 x104002 x104003 x104004 x104005 x104006)
def psalteryref18_Join_raw.l1 : Nat → List (S50) → List (List Int) → Int → Int → Int → Int → Bool → Bool → Bool → Bool → List (List Int) → Option ((List (List Int)) × Int)
 | 0, _, _, _, _, _, _, _, _, _, _, _ => none
 | k + 1, x0, x4, x5, x8, x104000, x104001, x104002, x104003, x104004, x104005, x104006 => if x8 < (x104006.length : Int) then ((some (([] : List Int) : List Int)).bind fun y107 => (if 0 ≤ x8 then (if y107.length + (rd_L3 x104006 x8).length < 140737488355328 then ((some (y107 ++ (rd_L3 x104006 x8) : List Int)).bind fun y111 => (if x8 = 0 then (if x104004 = true then ((some (([] : List Int) : List Int)).bind fun y114 => (if 0 ≤ (wrap64 ((x4.length : Int) - 1)) then (if (wrap64 ((x4.length : Int) - 1)) < (x4.length : Int) then (if y114.length + (rd_L3 x4 (wrap64 ((x4.length : Int) - 1))).length < 140737488355328 then ((some (y114 ++ (rd_L3 x4 (wrap64 ((x4.length : Int) - 1))) : List Int)).bind fun y118 => (if y118.length + y111.length < 140737488355328 then (if (wrap64 ((x4.length : Int) - 1)) ≤ (x4.length : Int) then ((some (x4.take ((wrap64 ((x4.length : Int) - 1)) : Int).toNat : List (List Int))).bind fun y124 => (if y124.length < 5864062014805 then (psalteryref18_Join_raw.l1 k x0 (y124 ++ [(y118 ++ y111)]) x5 (wrap64 (x8 + 1)) x104000 x104001 x104002 x104003 x104004 x104005 x104006) else (none))) else (none)) else (none))) else (none)) else (none)) else (none))) else (if x4.length < 5864062014805 then (psalteryref18_Join_raw.l1 k x0 (x4 ++ [y111]) x5 (wrap64 (x8 + 1)) x104000 x104001 x104002 x104003 x104004 x104005 x104006) else (none))) else (if x4.length < 5864062014805 then (psalteryref18_Join_raw.l1 k x0 (x4 ++ [y111]) x5 (wrap64 (x8 + 1)) x104000 x104001 x104002 x104003 x104004 x104005 x104006) else (none)))) else (none)) else (none))) else (psalteryref18_Join_raw.l0 k x0 x4 (wrap64 (x5 + 1)))
end
def psalteryref18_Join_raw.f (k : Nat) (l0 : List (S50)) : Option ((List (List Int)) × Int) := psalteryref18_Join_raw.l0 k l0 ([] : List (List Int)) 0
set_option maxHeartbeats 8000000 in
set_option maxRecDepth 100000 in
theorem psalteryref18_Join_raw.calls (k : Nat) (A0 : Option Addr) (c0 : Nat) (l0 : List (S50)) (r1 : List (List Int)) (r2 : Int) (w : World) (hr0 : Kd.C k50 w A0 l0.length l0) (hc0 : l0.length ≤ c0) (h : psalteryref18_Join_raw.f k l0 = some (r1, r2)) :
  Calls Try.prog 58 #[.slice A0 l0.length c0] w fun e w' => ∃ v0_ : Value, e = .returned (.tuple #[v0_, .int .i64 r2]) ∧ Kd.S (Kd.slice 5 (Kd.int .u8)) 28 w' w.heap.size (fun _ => True) v0_ r1 ∧ Below w.heap.size w w' := by
 have hu50 := Try.underlying50
 have HR0 := Zma hr0
 have HC0 := Zma hc0
 clear hr0 hc0
 have HB := Zma (Below.refl w.heap.size w)
 have H : (psalteryref18_Join_raw.l0 k l0 ([] : List (List Int)) 0) = some (r1, r2) := h
 clear h
 have H' := Zma H
 clear H
 go_enter Try.func58, Try.ntmps58
 go_wp2
 repeat (go_quiet (fail); try go_wp2)
 go_loopg [4, 5] k (fun kq v4 v5 w' => ∃ (x4_1 : List (List Int)) (x5_1 : Int), v5 = .int .i64 x5_1 ∧ Aside0 (psalteryref18_Join_raw.l0 kq l0 x4_1 x5_1 = some (r1, r2)) ∧ Aside0 (kq ≤ k) ∧ Aside0 (Kd.S (Kd.slice 5 (Kd.int .u8)) 28 w' w.heap.size (fun _ => True) v4 x4_1) ∧ Aside0 (Below w.heap.size w w'))
 case atStart => exact ⟨(([] : List (List Int))), (0), (by first | rfl | (simp; done) | (simp [*]; done)), H', ⟨Zra _⟩, ⟨by first | exact Kd.S_nil _ _ _ _ _ | exact Kd.N_nil _ _ _ _ _ | exact Kd.V_nil _ _ _ _ _ | exact Kd.Q_nil _ _ _ _ _ | exact Kd.R_nil _ _ _ _ _⟩, ⟨by repeat (first | (with_reducible first | exact HB.out | apply Zi | apply Ze | apply Zla) | exact HB.out)⟩⟩
 case round =>
  clear H'
  obtain ⟨x4_1, x5_1, rfl, HA, HK1, HO_4, HB⟩ := hrel
  cases gk with
  | zero => exact absurd HA.out (by simp [psalteryref18_Join_raw.l0])
  | succ k1 =>
   have H := HA.out
   clear HA
   simp only [psalteryref18_Join_raw.l0] at H
   by_cases c2 : x5_1 < (l0.length : Int)
   ·rw [if_pos c2] at H
    have c2b0 : decide (x5_1 < (l0.length : Int)) = true := Zn c2
    clear c2
    by_cases c3 : 0 ≤ x5_1
    rotate_left
    ·rw [if_neg c3] at H
     exact absurd H (by simp)
    rw [if_pos c3] at H
    have c3b0 : decide (0 ≤ x5_1) = true := Zn c3
    clear c3
    replace H := Option.bind_eq_some_iff.mp H
    obtain ⟨t104, A40, H⟩ := H
    replace H : (if t104 = true then (if x5_1 > 0 then (if 0 ≤ (wrap64 (x5_1 - 1)) then (if (wrap64 (x5_1 - 1)) < (l0.length : Int) then (psalteryref18_Join_raw.j1 k1 l0 x4_1 x5_1 ((rd_T50 l0 (wrap64 (x5_1 - 1))).f5) ((rd_T50 l0 x5_1).f0) ((rd_T50 l0 x5_1).f1) ((rd_T50 l0 x5_1).f2) ((rd_T50 l0 x5_1).f3) ((rd_T50 l0 x5_1).f4) ((rd_T50 l0 x5_1).f5) ((rd_T50 l0 x5_1).f6)) else (none)) else (none)) else (psalteryref18_Join_raw.j1 k1 l0 x4_1 x5_1 false ((rd_T50 l0 x5_1).f0) ((rd_T50 l0 x5_1).f1) ((rd_T50 l0 x5_1).f2) ((rd_T50 l0 x5_1).f3) ((rd_T50 l0 x5_1).f4) ((rd_T50 l0 x5_1).f5) ((rd_T50 l0 x5_1).f6))) else (some (([] : List (List Int)), 1))) = some (r1, r2) := H
    have A4 := Zma A40
    clear A40
    by_cases c5 : t104 = true
    ·subst c5
     have H1 : (if x5_1 > 0 then (if 0 ≤ (wrap64 (x5_1 - 1)) then (if (wrap64 (x5_1 - 1)) < (l0.length : Int) then (psalteryref18_Join_raw.j1 k1 l0 x4_1 x5_1 ((rd_T50 l0 (wrap64 (x5_1 - 1))).f5) ((rd_T50 l0 x5_1).f0) ((rd_T50 l0 x5_1).f1) ((rd_T50 l0 x5_1).f2) ((rd_T50 l0 x5_1).f3) ((rd_T50 l0 x5_1).f4) ((rd_T50 l0 x5_1).f5) ((rd_T50 l0 x5_1).f6)) else (none)) else (none)) else (psalteryref18_Join_raw.j1 k1 l0 x4_1 x5_1 false ((rd_T50 l0 x5_1).f0) ((rd_T50 l0 x5_1).f1) ((rd_T50 l0 x5_1).f2) ((rd_T50 l0 x5_1).f3) ((rd_T50 l0 x5_1).f4) ((rd_T50 l0 x5_1).f5) ((rd_T50 l0 x5_1).f6))) = some (r1, r2) := by rw [if_pos rfl] at H; exact H
     clear H
     have H := H1
     clear H1
     have HC6 := Zma H
     clear H
     have p102 : 0 ≤ (x5_1 : Int) := Zg (by first | (with_reducible assumption) | assumption)
     have q102 : x5_1 < (l0.length : Int) := Zg (by first | (with_reducible assumption) | assumption)
     obtain ⟨ad102, A102_6, c102_6, e102, hx102_0, hx102_1, hx102_2, hx102_3, hx102_4, hx102_5, hx102_6, hl102_6, hi102_6⟩ := at_T50 HR0.out x5_1 p102 q102
     cases e102
     replace hx102_0 := (HB.out.cell (Zh w _ hx102_0)).trans hx102_0
     replace hx102_1 := (HB.out.cell (Zh w _ hx102_1)).trans hx102_1
     replace hx102_2 := (HB.out.cell (Zh w _ hx102_2)).trans hx102_2
     replace hx102_3 := (HB.out.cell (Zh w _ hx102_3)).trans hx102_3
     replace hx102_4 := (HB.out.cell (Zh w _ hx102_4)).trans hx102_4
     replace hx102_5 := (HB.out.cell (Zh w _ hx102_5)).trans hx102_5
     replace hx102_6 := (HB.out.cell (Zh w _ hx102_6)).trans hx102_6
     have HR102_6 := Zma hi102_6
     have HC102_6 := Zma hl102_6
     clear hi102_6 hl102_6
     replace p102 := Zja p102
     replace q102 := Zja q102
     go_upto_region 8 with (first | ((with_reducible refine gate_dst (N := 6) rfl ?_); (try (refine gate_guard (by rfl) ?_; dsimp only)); refine box_event ?hg (N := 6) ?hd (cs := #[.int .i64 0, .int .i64 0, .bool false, .bool false, .bool false, .bool false, .slice none 0 0]) (t := 50) ?hr ?_; (case hd => rfl); (case hg => rfl); (case hr => first | (go_simp; done) | (go_simp; rfl)); intro gb103 hg w7 hbox hb; have n0_ := Zma (Kd.S_below (by (with_reducible repeat (first | apply Zy | apply Zx | apply Zz)); exact HO_4.out) hb); have n1_ := Zma (Zoa (by repeat (first | (with_reducible first | exact HB.out | apply Zi | apply Ze | apply Zla) | exact HB.out)) hb); have n2_ := Zma (hbox); have n3_ := Zma ((by rw [hg]; exact (Zfa (by repeat (first | (with_reducible first | exact HB.out | apply Zi | apply Ze | apply Zla) | exact HB.out))) : w.heap.size ≤ gb103)); have n4_ := Zma ((by rw [hg]; exact (Zfa (by repeat (first | (with_reducible first | exact HB.out | apply Zi | apply Ze | apply Zla) | exact HB.out))) : w.heap.size ≤ gb103)); clear HO_4 HB; have HO_4 := n0_; have HB := n1_; have BK103 := n2_; have GW103 := n3_; have GE103 := n4_; clear n0_ n1_ n2_ n3_ n4_ hb hbox hg; obtain ⟨hcz8_0, hcz8_1, hcz8_2, hcz8_3, hcz8_4, hcz8_5, hcz8_6, hfz8_0, hfz8_1, hfz8_2, hfz8_3, hfz8_4, hfz8_5, hfz8_6⟩ := blk7 BK103.out) | (go_at_call 55; (with_reducible refine (psalteryref18_Right.calls ((rd_T50 l0 x5_1).f0) ((rd_T50 l0 x5_1).f1) ((rd_T50 l0 x5_1).f2) ((rd_T50 l0 x5_1).f3) ((rd_T50 l0 x5_1).f4) ((rd_T50 l0 x5_1).f5) _ _ ((rd_T50 l0 x5_1).f6) true _ ?side1 ?side2 A4.out).mono ?_); (case side1 => exact Kd.C_below HR102_6.out (by repeat (first | (with_reducible first | exact HB.out | apply Zi | apply Ze | apply Zla | refine Zm ?_ GE103.out) | exact HB.out))); (case side2 => exact HC102_6.out); rintro e w9 ⟨rfl, hb⟩; have n0_ := Zma (Kd.S_below (by (with_reducible repeat (first | apply Zy | apply Zx | apply Zz)); exact (Kd.S_mono (Kd.S_far (p := ⟨gb103, 6, none⟩) (Kd.S_far (p := ⟨gb103, 5, none⟩) (Kd.S_far (p := ⟨gb103, 4, none⟩) (Kd.S_far (p := ⟨gb103, 3, none⟩) (Kd.S_far (p := ⟨gb103, 2, none⟩) (Kd.S_far (p := ⟨gb103, 1, none⟩) (Kd.S_far (p := ⟨gb103, 0, none⟩) (Kd.S_types HO_4.out BK103.out (by decide)) (fun _ hk => hk.2) (.int .i64 ((rd_T50 l0 x5_1).f0))) (fun _ hk => hk.2) (.int .i64 ((rd_T50 l0 x5_1).f1))) (fun _ hk => hk.2) (.bool ((rd_T50 l0 x5_1).f2))) (fun _ hk => hk.2) (.bool ((rd_T50 l0 x5_1).f3))) (fun _ hk => hk.2) (.bool ((rd_T50 l0 x5_1).f4))) (fun _ hk => hk.2) (.bool ((rd_T50 l0 x5_1).f5))) (fun _ hk => hk.2) (.slice A102_6 ((rd_T50 l0 x5_1).f6).length c102_6)) (fun _ h_ => h_.1))) hb); have n1_ := Zma (Zab (g := gb103) (o := .cells #[.int .i64 ((rd_T50 l0 x5_1).f0), .int .i64 ((rd_T50 l0 x5_1).f1), .bool ((rd_T50 l0 x5_1).f2), .bool ((rd_T50 l0 x5_1).f3), .bool ((rd_T50 l0 x5_1).f4), .bool ((rd_T50 l0 x5_1).f5), .slice A102_6 ((rd_T50 l0 x5_1).f6).length c102_6] 50 (0, 0)) (by (with_reducible repeat (first | refine Zk ?_ _ | refine Zl ?_ | refine Zj ?_ _)); refine Zva (cs := #[.int .i64 ((rd_T50 l0 x5_1).f0), .int .i64 ((rd_T50 l0 x5_1).f1), .bool ((rd_T50 l0 x5_1).f2), .bool ((rd_T50 l0 x5_1).f3), .bool ((rd_T50 l0 x5_1).f4), .bool ((rd_T50 l0 x5_1).f5), .slice none 0 0]) ?_ 6 _ rfl; (with_reducible repeat (first | refine Zk ?_ _ | refine Zl ?_ | refine Zj ?_ _)); refine Zva (cs := #[.int .i64 ((rd_T50 l0 x5_1).f0), .int .i64 ((rd_T50 l0 x5_1).f1), .bool ((rd_T50 l0 x5_1).f2), .bool ((rd_T50 l0 x5_1).f3), .bool ((rd_T50 l0 x5_1).f4), .bool false, .slice none 0 0]) ?_ 5 _ rfl; (with_reducible repeat (first | refine Zk ?_ _ | refine Zl ?_ | refine Zj ?_ _)); refine Zva (cs := #[.int .i64 ((rd_T50 l0 x5_1).f0), .int .i64 ((rd_T50 l0 x5_1).f1), .bool ((rd_T50 l0 x5_1).f2), .bool ((rd_T50 l0 x5_1).f3), .bool false, .bool false, .slice none 0 0]) ?_ 4 _ rfl; (with_reducible repeat (first | refine Zk ?_ _ | refine Zl ?_ | refine Zj ?_ _)); refine Zva (cs := #[.int .i64 ((rd_T50 l0 x5_1).f0), .int .i64 ((rd_T50 l0 x5_1).f1), .bool ((rd_T50 l0 x5_1).f2), .bool false, .bool false, .bool false, .slice none 0 0]) ?_ 3 _ rfl; (with_reducible repeat (first | refine Zk ?_ _ | refine Zl ?_ | refine Zj ?_ _)); refine Zva (cs := #[.int .i64 ((rd_T50 l0 x5_1).f0), .int .i64 ((rd_T50 l0 x5_1).f1), .bool false, .bool false, .bool false, .bool false, .slice none 0 0]) ?_ 2 _ rfl; (with_reducible repeat (first | refine Zk ?_ _ | refine Zl ?_ | refine Zj ?_ _)); refine Zva (cs := #[.int .i64 ((rd_T50 l0 x5_1).f0), .int .i64 0, .bool false, .bool false, .bool false, .bool false, .slice none 0 0]) ?_ 1 _ rfl; (with_reducible repeat (first | refine Zk ?_ _ | refine Zl ?_ | refine Zj ?_ _)); refine Zva (cs := #[.int .i64 0, .int .i64 0, .bool false, .bool false, .bool false, .bool false, .slice none 0 0]) ?_ 0 _ rfl; (with_reducible repeat (first | refine Zk ?_ _ | refine Zl ?_ | refine Zj ?_ _)); exact BK103.out) hb); have n2_ := Zma (Zoa (by repeat (first | (with_reducible first | exact HB.out | apply Zi | apply Ze | apply Zla | refine Zm ?_ GE103.out) | exact HB.out)) hb); clear HO_4 BK103 HB; have HO_4 := n0_; have BK103 := n1_; have HB := n2_; clear n0_ n1_ n2_; (try clear hb); (try clear hb2); (try clear hk); (try clear hi)))
     (try simp only [Act.put, Za, Zb, Zc])
     go_cut [7] (fun v7 wc => ∃ (kq : Nat) (x7_5 : Bool), v7 = .bool x7_5 ∧ Aside0 (psalteryref18_Join_raw.j1 kq l0 x4_1 x5_1 x7_5 ((rd_T50 l0 x5_1).f0) ((rd_T50 l0 x5_1).f1) ((rd_T50 l0 x5_1).f2) ((rd_T50 l0 x5_1).f3) ((rd_T50 l0 x5_1).f4) ((rd_T50 l0 x5_1).f5) ((rd_T50 l0 x5_1).f6) = some (r1, r2)) ∧ Aside0 (kq ≤ k1) ∧ Aside0 (Kd.S (Kd.slice 5 (Kd.int .u8)) 28 wc w.heap.size (fun _ => True) u4 x4_1) ∧ Aside0 (wc.heap[gb103]? = some (.cells #[.int .i64 ((rd_T50 l0 x5_1).f0), .int .i64 ((rd_T50 l0 x5_1).f1), .bool ((rd_T50 l0 x5_1).f2), .bool ((rd_T50 l0 x5_1).f3), .bool ((rd_T50 l0 x5_1).f4), .bool ((rd_T50 l0 x5_1).f5), (.slice A102_6 ((rd_T50 l0 x5_1).f6).length c102_6)] 50 (0, 0))) ∧ Aside0 (Below w.heap.size w wc))
     case first =>
      have H := HC6.out
      clear HC6
      by_cases c10 : x5_1 > 0
      ·rw [if_pos c10] at H
       have c10b0 : decide (0 < x5_1) = true := Zn c10
       clear c10
       (first | rw [c10b0] | (simp only [i64_w, i32_w]; rw [c10b0]) | skip)
       obtain ⟨ji11, hji11⟩ : ∃ j_ : Int, (wrap64 (x5_1 - 1)) = j_ := ⟨_, rfl⟩
       replace H : (if 0 ≤ (ji11) then (if (ji11) < (l0.length : Int) then (psalteryref18_Join_raw.j1 k1 l0 x4_1 x5_1 ((rd_T50 l0 (ji11)).f5) ((rd_T50 l0 x5_1).f0) ((rd_T50 l0 x5_1).f1) ((rd_T50 l0 x5_1).f2) ((rd_T50 l0 x5_1).f3) ((rd_T50 l0 x5_1).f4) ((rd_T50 l0 x5_1).f5) ((rd_T50 l0 x5_1).f6)) else (none)) else (none)) = some (r1, r2) := by first | (rw [hji11] at H; exact H) | (simp only [hji11] at H ⊢; exact H)
       have hji11w : (IntKind.i64.wrap (x5_1 - 1)) = ji11 := (i64_w _).trans hji11
       by_cases c12 : 0 ≤ (ji11)
       rotate_left
       ·rw [if_neg c12] at H
        exact absurd H (by simp)
       rw [if_pos c12] at H
       have c12b0 : decide (0 ≤ (ji11)) = true := Zn c12
       clear c12
       by_cases c13 : (ji11) < (l0.length : Int)
       rotate_left
       ·rw [if_neg c13] at H
        exact absurd H (by simp)
       rw [if_pos c13] at H
       have c13b0 : decide ((ji11) < (l0.length : Int)) = true := Zn c13
       clear c13
       have H' := Zma H
       clear H
       have p105 : 0 ≤ ((ji11) : Int) := Zg (by first | (with_reducible assumption) | assumption)
       have q105 : (ji11) < (l0.length : Int) := Zg (by first | (with_reducible assumption) | assumption)
       obtain ⟨ad105, A105_6, c105_6, e105, hx105_0, hx105_1, hx105_2, hx105_3, hx105_4, hx105_5, hx105_6, hl105_6, hi105_6⟩ := at_T50 HR0.out (ji11) p105 q105
       obtain rfl : ad102 = ad105 := (by injection e105)
       replace hx105_0 := (HB.out.cell (Zh w _ hx105_0)).trans hx105_0
       replace hx105_1 := (HB.out.cell (Zh w _ hx105_1)).trans hx105_1
       replace hx105_2 := (HB.out.cell (Zh w _ hx105_2)).trans hx105_2
       replace hx105_3 := (HB.out.cell (Zh w _ hx105_3)).trans hx105_3
       replace hx105_4 := (HB.out.cell (Zh w _ hx105_4)).trans hx105_4
       replace hx105_5 := (HB.out.cell (Zh w _ hx105_5)).trans hx105_5
       replace hx105_6 := (HB.out.cell (Zh w _ hx105_6)).trans hx105_6
       have HR105_6 := Zma hi105_6
       have HC105_6 := Zma hl105_6
       clear hi105_6 hl105_6
       replace p105 := Zja p105
       replace q105 := Zja q105
       go_wp2
       repeat (go_quiet (fail); try go_wp2)
       go_meet
       case rel => exact ⟨_, ((rd_T50 l0 (ji11)).f5), (by first | rfl | (simp; done) | (simp only [← hji11] <;> (first | rfl | simp)) | (simp [*]; done)), H', ⟨by have := HK1.out; first | omega | exact Zra _⟩, ⟨by (with_reducible repeat (first | apply Zy | apply Zx | apply Zz)); exact HO_4.out⟩, ⟨by (with_reducible repeat (first | refine Zk ?_ _ | refine Zl ?_ | refine Zj ?_ _)); exact BK103.out⟩, ⟨by repeat (first | (with_reducible first | exact HB.out | apply Zi | apply Ze | apply Zla | refine Zm ?_ GE103.out) | exact HB.out)⟩⟩
      rw [if_neg c10] at H
      have c10b0 : decide (0 < x5_1) = false := Zna c10
      clear c10
      (first | rw [c10b0] | (simp only [i64_w, i32_w]; rw [c10b0]) | skip)
      have H' := Zma H
      clear H
      go_wp2
      repeat (go_quiet (fail); try go_wp2)
      go_meet
      case rel => exact ⟨_, (false), (by first | rfl | (simp; done) | (simp [*]; done)), H', ⟨by have := HK1.out; first | omega | exact Zra _⟩, ⟨by (with_reducible repeat (first | apply Zy | apply Zx | apply Zz)); exact HO_4.out⟩, ⟨by (with_reducible repeat (first | refine Zk ?_ _ | refine Zl ?_ | refine Zj ?_ _)); exact BK103.out⟩, ⟨by repeat (first | (with_reducible first | exact HB.out | apply Zi | apply Ze | apply Zla | refine Zm ?_ GE103.out) | exact HB.out)⟩⟩
     case rest =>
      clear HC6
      try clear c1
      try clear p1
      try clear q1
      try clear hx1
      try clear c2
      try clear c2b0
      try clear p2
      try clear c3
      try clear c3b0
      try clear c5
      try clear p6
      try clear c10
      try clear c10b0
      try clear p10
      try clear q10
      try clear hx10
      try clear c12
      try clear c12b0
      try clear c13
      try clear c13b0
      try clear hcz8_0
      try clear hcz8_1
      try clear hcz8_2
      try clear hcz8_3
      try clear hcz8_4
      try clear hcz8_5
      try clear hcz8_6
      try clear hfz8_0
      try clear hfz8_1
      try clear hfz8_2
      try clear hfz8_3
      try clear hfz8_4
      try clear hfz8_5
      try clear hfz8_6
      try clear hx102_0
      try clear hx102_1
      try clear hx102_2
      try clear hx102_3
      try clear hx102_4
      try clear hx102_5
      try clear hx102_6
      try clear hx105_0
      try clear hx105_1
      try clear hx105_2
      try clear hx105_3
      try clear hx105_4
      try clear hx105_5
      try clear hx105_6
      try clear p102
      try clear p105
      try clear q102
      try clear q105
      obtain ⟨kq, x7_5, rfl, HA, HJ5, HO_4, BK103, HB⟩ := hcut
      cases kq with
      | zero => exact absurd HA.out (by simp [psalteryref18_Join_raw.j1])
      | succ kj5 =>
       have H := HA.out
       clear HA
       simp only [psalteryref18_Join_raw.j1] at H
       have HC14 := Zma H
       clear H
       go_upto_region 9 with (fail)
       repeat (go_quiet (fail); go_upto_region 9 with (fail))
       go_cut [62] (fun v62 wc => ∃ (kq : Nat) (x62_13 : Bool), v62 = .bool x62_13 ∧ Aside0 (psalteryref18_Join_raw.j2 kq l0 x4_1 x5_1 x62_13 ((rd_T50 l0 x5_1).f0) ((rd_T50 l0 x5_1).f1) ((rd_T50 l0 x5_1).f2) ((rd_T50 l0 x5_1).f3) ((rd_T50 l0 x5_1).f4) ((rd_T50 l0 x5_1).f5) ((rd_T50 l0 x5_1).f6) = some (r1, r2)) ∧ Aside0 (kq ≤ kj5) ∧ Aside0 (Kd.S (Kd.slice 5 (Kd.int .u8)) 28 wc w.heap.size (fun _ => True) u4 x4_1) ∧ Aside0 (wc.heap[gb103]? = some (.cells #[.int .i64 ((rd_T50 l0 x5_1).f0), .int .i64 ((rd_T50 l0 x5_1).f1), .bool ((rd_T50 l0 x5_1).f2), .bool ((rd_T50 l0 x5_1).f3), .bool ((rd_T50 l0 x5_1).f4), .bool ((rd_T50 l0 x5_1).f5), (.slice A102_6 ((rd_T50 l0 x5_1).f6).length c102_6)] 50 (0, 0))) ∧ Aside0 (Below w.heap.size w wc))
       case first =>
        have H := HC14.out
        clear HC14
        by_cases c15 : (((rd_T50 l0 x5_1).f4) != x7_5) = true
        ·rw [if_pos c15] at H
         have c15b0 : (((rd_T50 l0 x5_1).f4) != x7_5) = true := c15
         (try (have c15b1 : decide (((rd_T50 l0 x5_1).f4) = x7_5) = false := by simpa using c15))
         (try (have c15b2 : (((rd_T50 l0 x5_1).f4) == x7_5) = false := by simpa using c15))
         (try (have c15b3 : ¬ (((rd_T50 l0 x5_1).f4) = x7_5) := by simpa using c15))
         clear c15
         (first | rw [c15b0] | (simp only [i64_w, i32_w]; rw [c15b0]) | skip)
         have H' := Zma H
         clear H
         obtain ⟨hcz16_0, hcz16_1, hcz16_2, hcz16_3, hcz16_4, hcz16_5, hcz16_6, hfz16_0, hfz16_1, hfz16_2, hfz16_3, hfz16_4, hfz16_5, hfz16_6⟩ := blk7 BK103.out
         go_wp2
         repeat (go_quiet (fail); try go_wp2)
         go_meet
         case rel => exact ⟨_, (true), (by first | rfl | (simp; done) | (simp [*]; done)), H', ⟨by have := HK1.out; have := HJ5.out; first | omega | exact Zra _⟩, ⟨by (with_reducible repeat (first | apply Zy | apply Zx | apply Zz)); exact HO_4.out⟩, ⟨by (with_reducible repeat (first | refine Zk ?_ _ | refine Zl ?_ | refine Zj ?_ _)); exact BK103.out⟩, ⟨by repeat (first | (with_reducible first | exact HB.out | apply Zi | apply Ze | apply Zla | refine Zm ?_ GE103.out) | exact HB.out)⟩⟩
        rw [if_neg c15] at H
        have c15b0 : (((rd_T50 l0 x5_1).f4) != x7_5) = false := by simpa using c15
        (try (have c15b1 : decide (((rd_T50 l0 x5_1).f4) = x7_5) = true := by simpa using c15))
        (try (have c15b2 : (((rd_T50 l0 x5_1).f4) == x7_5) = true := by simpa using c15))
        clear c15
        (first | rw [c15b0] | (simp only [i64_w, i32_w]; rw [c15b0]) | skip)
        by_cases c17 : x5_1 > 0
        ·rw [if_pos c17] at H
         have c17b0 : decide (0 < x5_1) = true := Zn c17
         clear c17
         obtain ⟨ji18, hji18⟩ : ∃ j_ : Int, (wrap64 (x5_1 - 1)) = j_ := ⟨_, rfl⟩
         replace H : (if 0 ≤ (ji18) then (if (ji18) < (l0.length : Int) then (if (wrap64 (((rd_T50 l0 x5_1).f0) - 1)) = ((rd_T50 l0 (ji18)).f0) then (if ((rd_T50 l0 x5_1).f4) = true then (psalteryref18_Join_raw.j2 kj5 l0 x4_1 x5_1 ((((rd_T50 l0 x5_1).f6).length : Int) == 0) ((rd_T50 l0 x5_1).f0) ((rd_T50 l0 x5_1).f1) ((rd_T50 l0 x5_1).f2) ((rd_T50 l0 x5_1).f3) ((rd_T50 l0 x5_1).f4) ((rd_T50 l0 x5_1).f5) ((rd_T50 l0 x5_1).f6)) else (psalteryref18_Join_raw.j2 kj5 l0 x4_1 x5_1 false ((rd_T50 l0 x5_1).f0) ((rd_T50 l0 x5_1).f1) ((rd_T50 l0 x5_1).f2) ((rd_T50 l0 x5_1).f3) ((rd_T50 l0 x5_1).f4) ((rd_T50 l0 x5_1).f5) ((rd_T50 l0 x5_1).f6))) else (psalteryref18_Join_raw.j2 kj5 l0 x4_1 x5_1 true ((rd_T50 l0 x5_1).f0) ((rd_T50 l0 x5_1).f1) ((rd_T50 l0 x5_1).f2) ((rd_T50 l0 x5_1).f3) ((rd_T50 l0 x5_1).f4) ((rd_T50 l0 x5_1).f5) ((rd_T50 l0 x5_1).f6))) else (none)) else (none)) = some (r1, r2) := by first | (rw [hji18] at H; exact H) | (simp only [hji18] at H ⊢; exact H)
         have hji18w : (IntKind.i64.wrap (x5_1 - 1)) = ji18 := (i64_w _).trans hji18
         by_cases c19 : 0 ≤ (ji18)
         rotate_left
         ·rw [if_neg c19] at H
          exact absurd H (by simp)
         rw [if_pos c19] at H
         have c19b0 : decide (0 ≤ (ji18)) = true := Zn c19
         clear c19
         by_cases c20 : (ji18) < (l0.length : Int)
         rotate_left
         ·rw [if_neg c20] at H
          exact absurd H (by simp)
         rw [if_pos c20] at H
         have c20b0 : decide ((ji18) < (l0.length : Int)) = true := Zn c20
         clear c20
         by_cases c21 : (wrap64 (((rd_T50 l0 x5_1).f0) - 1)) = ((rd_T50 l0 (ji18)).f0)
         ·rw [if_pos c21] at H
          have c21b0 : ((wrap64 (((rd_T50 l0 x5_1).f0) - 1)) == ((rd_T50 l0 (ji18)).f0)) = true := beq_iff_eq.mpr c21
          have c21b1 : ((wrap64 (((rd_T50 l0 x5_1).f0) - 1)) != ((rd_T50 l0 (ji18)).f0)) = false := bne_eq_false_iff_eq.mpr c21
          clear c21
          by_cases c22 : ((rd_T50 l0 x5_1).f4) = true
          ·rw [if_pos c22] at H
           have c22b0 : ((rd_T50 l0 x5_1).f4) = true := c22
           have cx7_ : x7_5 = true := (bne_eq_false_iff_eq.mp c15b0).symm.trans c22b0
           clear c15b0
           (try clear c15b1)
           (try clear c15b2)
           subst cx7_
           clear c22
           have H' := Zma H
           clear H
           obtain ⟨hcz23_0, hcz23_1, hcz23_2, hcz23_3, hcz23_4, hcz23_5, hcz23_6, hfz23_0, hfz23_1, hfz23_2, hfz23_3, hfz23_4, hfz23_5, hfz23_6⟩ := blk7 BK103.out
           have p106 : 0 ≤ ((ji18) : Int) := Zg (by first | (with_reducible assumption) | assumption)
           have q106 : (ji18) < (l0.length : Int) := Zg (by first | (with_reducible assumption) | assumption)
           obtain ⟨ad106, A106_6, c106_6, e106, hx106_0, hx106_1, hx106_2, hx106_3, hx106_4, hx106_5, hx106_6, hl106_6, hi106_6⟩ := at_T50 HR0.out (ji18) p106 q106
           obtain rfl : ad102 = ad106 := (by injection e106)
           replace hx106_0 := (HB.out.cell (Zh w _ hx106_0)).trans hx106_0
           replace hx106_1 := (HB.out.cell (Zh w _ hx106_1)).trans hx106_1
           replace hx106_2 := (HB.out.cell (Zh w _ hx106_2)).trans hx106_2
           replace hx106_3 := (HB.out.cell (Zh w _ hx106_3)).trans hx106_3
           replace hx106_4 := (HB.out.cell (Zh w _ hx106_4)).trans hx106_4
           replace hx106_5 := (HB.out.cell (Zh w _ hx106_5)).trans hx106_5
           replace hx106_6 := (HB.out.cell (Zh w _ hx106_6)).trans hx106_6
           have HR106_6 := Zma hi106_6
           have HC106_6 := Zma hl106_6
           clear hi106_6 hl106_6
           replace p106 := Zja p106
           replace q106 := Zja q106
           go_wp2
           repeat (go_quiet (fail); try go_wp2)
           go_meet
           case rel => exact ⟨_, (((((rd_T50 l0 x5_1).f6).length : Int) == 0)), (by first | rfl | (simp; done) | (simp [*]; done)), H', ⟨by have := HK1.out; have := HJ5.out; first | omega | exact Zra _⟩, ⟨by (with_reducible repeat (first | apply Zy | apply Zx | apply Zz)); exact HO_4.out⟩, ⟨by (with_reducible repeat (first | refine Zk ?_ _ | refine Zl ?_ | refine Zj ?_ _)); exact BK103.out⟩, ⟨by repeat (first | (with_reducible first | exact HB.out | apply Zi | apply Ze | apply Zla | refine Zm ?_ GE103.out) | exact HB.out)⟩⟩
          rw [if_neg c22] at H
          have c22b0 : ((rd_T50 l0 x5_1).f4) = false := by simpa using c22
          have cx7_ : x7_5 = false := (bne_eq_false_iff_eq.mp c15b0).symm.trans c22b0
          clear c15b0
          (try clear c15b1)
          (try clear c15b2)
          subst cx7_
          clear c22
          have H' := Zma H
          clear H
          obtain ⟨hcz24_0, hcz24_1, hcz24_2, hcz24_3, hcz24_4, hcz24_5, hcz24_6, hfz24_0, hfz24_1, hfz24_2, hfz24_3, hfz24_4, hfz24_5, hfz24_6⟩ := blk7 BK103.out
          have p106 : 0 ≤ ((ji18) : Int) := Zg (by first | (with_reducible assumption) | assumption)
          have q106 : (ji18) < (l0.length : Int) := Zg (by first | (with_reducible assumption) | assumption)
          obtain ⟨ad106, A106_6, c106_6, e106, hx106_0, hx106_1, hx106_2, hx106_3, hx106_4, hx106_5, hx106_6, hl106_6, hi106_6⟩ := at_T50 HR0.out (ji18) p106 q106
          obtain rfl : ad102 = ad106 := (by injection e106)
          replace hx106_0 := (HB.out.cell (Zh w _ hx106_0)).trans hx106_0
          replace hx106_1 := (HB.out.cell (Zh w _ hx106_1)).trans hx106_1
          replace hx106_2 := (HB.out.cell (Zh w _ hx106_2)).trans hx106_2
          replace hx106_3 := (HB.out.cell (Zh w _ hx106_3)).trans hx106_3
          replace hx106_4 := (HB.out.cell (Zh w _ hx106_4)).trans hx106_4
          replace hx106_5 := (HB.out.cell (Zh w _ hx106_5)).trans hx106_5
          replace hx106_6 := (HB.out.cell (Zh w _ hx106_6)).trans hx106_6
          have HR106_6 := Zma hi106_6
          have HC106_6 := Zma hl106_6
          clear hi106_6 hl106_6
          replace p106 := Zja p106
          replace q106 := Zja q106
          go_wp2
          repeat (go_quiet (fail); try go_wp2)
          go_meet
          case rel => exact ⟨_, (false), (by first | rfl | (simp; done) | (simp [*]; done)), H', ⟨by have := HK1.out; have := HJ5.out; first | omega | exact Zra _⟩, ⟨by (with_reducible repeat (first | apply Zy | apply Zx | apply Zz)); exact HO_4.out⟩, ⟨by (with_reducible repeat (first | refine Zk ?_ _ | refine Zl ?_ | refine Zj ?_ _)); exact BK103.out⟩, ⟨by repeat (first | (with_reducible first | exact HB.out | apply Zi | apply Ze | apply Zla | refine Zm ?_ GE103.out) | exact HB.out)⟩⟩
         rw [if_neg c21] at H
         have c21b0 : ((wrap64 (((rd_T50 l0 x5_1).f0) - 1)) == ((rd_T50 l0 (ji18)).f0)) = false := beq_eq_false_iff_ne.mpr c21
         have c21b1 : ((wrap64 (((rd_T50 l0 x5_1).f0) - 1)) != ((rd_T50 l0 (ji18)).f0)) = true := bne_iff_ne.mpr c21
         have H' := Zma H
         clear H
         obtain ⟨hcz25_0, hcz25_1, hcz25_2, hcz25_3, hcz25_4, hcz25_5, hcz25_6, hfz25_0, hfz25_1, hfz25_2, hfz25_3, hfz25_4, hfz25_5, hfz25_6⟩ := blk7 BK103.out
         have p106 : 0 ≤ ((ji18) : Int) := Zg (by first | (with_reducible assumption) | assumption)
         have q106 : (ji18) < (l0.length : Int) := Zg (by first | (with_reducible assumption) | assumption)
         obtain ⟨ad106, A106_6, c106_6, e106, hx106_0, hx106_1, hx106_2, hx106_3, hx106_4, hx106_5, hx106_6, hl106_6, hi106_6⟩ := at_T50 HR0.out (ji18) p106 q106
         obtain rfl : ad102 = ad106 := (by injection e106)
         replace hx106_0 := (HB.out.cell (Zh w _ hx106_0)).trans hx106_0
         replace hx106_1 := (HB.out.cell (Zh w _ hx106_1)).trans hx106_1
         replace hx106_2 := (HB.out.cell (Zh w _ hx106_2)).trans hx106_2
         replace hx106_3 := (HB.out.cell (Zh w _ hx106_3)).trans hx106_3
         replace hx106_4 := (HB.out.cell (Zh w _ hx106_4)).trans hx106_4
         replace hx106_5 := (HB.out.cell (Zh w _ hx106_5)).trans hx106_5
         replace hx106_6 := (HB.out.cell (Zh w _ hx106_6)).trans hx106_6
         have HR106_6 := Zma hi106_6
         have HC106_6 := Zma hl106_6
         clear hi106_6 hl106_6
         replace p106 := Zja p106
         replace q106 := Zja q106
         go_wp2
         repeat (go_quiet (fail); try go_wp2)
         go_meet
         case rel => exact ⟨_, (true), (by first | rfl | (simp; done) | (simp [*]; done)), H', ⟨by have := HK1.out; have := HJ5.out; first | omega | exact Zra _⟩, ⟨by (with_reducible repeat (first | apply Zy | apply Zx | apply Zz)); exact HO_4.out⟩, ⟨by (with_reducible repeat (first | refine Zk ?_ _ | refine Zl ?_ | refine Zj ?_ _)); exact BK103.out⟩, ⟨by repeat (first | (with_reducible first | exact HB.out | apply Zi | apply Ze | apply Zla | refine Zm ?_ GE103.out) | exact HB.out)⟩⟩
        rw [if_neg c17] at H
        have c17b0 : decide (0 < x5_1) = false := Zna c17
        clear c17
        by_cases c26 : ((rd_T50 l0 x5_1).f4) = true
        ·rw [if_pos c26] at H
         have c26b0 : ((rd_T50 l0 x5_1).f4) = true := c26
         have cx7_ : x7_5 = true := (bne_eq_false_iff_eq.mp c15b0).symm.trans c26b0
         clear c15b0
         (try clear c15b1)
         (try clear c15b2)
         subst cx7_
         clear c26
         have H' := Zma H
         clear H
         obtain ⟨hcz27_0, hcz27_1, hcz27_2, hcz27_3, hcz27_4, hcz27_5, hcz27_6, hfz27_0, hfz27_1, hfz27_2, hfz27_3, hfz27_4, hfz27_5, hfz27_6⟩ := blk7 BK103.out
         go_wp2
         repeat (go_quiet (fail); try go_wp2)
         go_meet
         case rel => exact ⟨_, (((((rd_T50 l0 x5_1).f6).length : Int) == 0)), (by first | rfl | (simp; done) | (simp [*]; done)), H', ⟨by have := HK1.out; have := HJ5.out; first | omega | exact Zra _⟩, ⟨by (with_reducible repeat (first | apply Zy | apply Zx | apply Zz)); exact HO_4.out⟩, ⟨by (with_reducible repeat (first | refine Zk ?_ _ | refine Zl ?_ | refine Zj ?_ _)); exact BK103.out⟩, ⟨by repeat (first | (with_reducible first | exact HB.out | apply Zi | apply Ze | apply Zla | refine Zm ?_ GE103.out) | exact HB.out)⟩⟩
        rw [if_neg c26] at H
        have c26b0 : ((rd_T50 l0 x5_1).f4) = false := by simpa using c26
        have cx7_ : x7_5 = false := (bne_eq_false_iff_eq.mp c15b0).symm.trans c26b0
        clear c15b0
        (try clear c15b1)
        (try clear c15b2)
        subst cx7_
        clear c26
        have H' := Zma H
        clear H
        obtain ⟨hcz28_0, hcz28_1, hcz28_2, hcz28_3, hcz28_4, hcz28_5, hcz28_6, hfz28_0, hfz28_1, hfz28_2, hfz28_3, hfz28_4, hfz28_5, hfz28_6⟩ := blk7 BK103.out
        go_wp2
        repeat (go_quiet (fail); try go_wp2)
        go_meet
        case rel => exact ⟨_, (false), (by first | rfl | (simp; done) | (simp [*]; done)), H', ⟨by have := HK1.out; have := HJ5.out; first | omega | exact Zra _⟩, ⟨by (with_reducible repeat (first | apply Zy | apply Zx | apply Zz)); exact HO_4.out⟩, ⟨by (with_reducible repeat (first | refine Zk ?_ _ | refine Zl ?_ | refine Zj ?_ _)); exact BK103.out⟩, ⟨by repeat (first | (with_reducible first | exact HB.out | apply Zi | apply Ze | apply Zla | refine Zm ?_ GE103.out) | exact HB.out)⟩⟩
       case rest =>
        clear HC14
        try clear c1
        try clear p1
        try clear q1
        try clear hx1
        try clear c2
        try clear c2b0
        try clear p2
        try clear c3
        try clear c3b0
        try clear c5
        try clear p6
        try clear c10
        try clear c10b0
        try clear p10
        try clear q10
        try clear hx10
        try clear c12
        try clear c12b0
        try clear c13
        try clear c13b0
        try clear c15
        try clear c15b0
        try clear c15b1
        try clear c15b2
        try clear c17
        try clear c17b0
        try clear c19
        try clear c19b0
        try clear c20
        try clear c20b0
        try clear c21
        try clear c21b0
        try clear c21b1
        try clear c22
        try clear c22b0
        try clear c26
        try clear c26b0
        try clear hcz16_0
        try clear hcz16_1
        try clear hcz16_2
        try clear hcz16_3
        try clear hcz16_4
        try clear hcz16_5
        try clear hcz16_6
        try clear hcz23_0
        try clear hcz23_1
        try clear hcz23_2
        try clear hcz23_3
        try clear hcz23_4
        try clear hcz23_5
        try clear hcz23_6
        try clear hcz24_0
        try clear hcz24_1
        try clear hcz24_2
        try clear hcz24_3
        try clear hcz24_4
        try clear hcz24_5
        try clear hcz24_6
        try clear hcz25_0
        try clear hcz25_1
        try clear hcz25_2
        try clear hcz25_3
        try clear hcz25_4
        try clear hcz25_5
        try clear hcz25_6
        try clear hcz27_0
        try clear hcz27_1
        try clear hcz27_2
        try clear hcz27_3
        try clear hcz27_4
        try clear hcz27_5
        try clear hcz27_6
        try clear hcz28_0
        try clear hcz28_1
        try clear hcz28_2
        try clear hcz28_3
        try clear hcz28_4
        try clear hcz28_5
        try clear hcz28_6
        try clear hcz8_0
        try clear hcz8_1
        try clear hcz8_2
        try clear hcz8_3
        try clear hcz8_4
        try clear hcz8_5
        try clear hcz8_6
        try clear hfz16_0
        try clear hfz16_1
        try clear hfz16_2
        try clear hfz16_3
        try clear hfz16_4
        try clear hfz16_5
        try clear hfz16_6
        try clear hfz23_0
        try clear hfz23_1
        try clear hfz23_2
        try clear hfz23_3
        try clear hfz23_4
        try clear hfz23_5
        try clear hfz23_6
        try clear hfz24_0
        try clear hfz24_1
        try clear hfz24_2
        try clear hfz24_3
        try clear hfz24_4
        try clear hfz24_5
        try clear hfz24_6
        try clear hfz25_0
        try clear hfz25_1
        try clear hfz25_2
        try clear hfz25_3
        try clear hfz25_4
        try clear hfz25_5
        try clear hfz25_6
        try clear hfz27_0
        try clear hfz27_1
        try clear hfz27_2
        try clear hfz27_3
        try clear hfz27_4
        try clear hfz27_5
        try clear hfz27_6
        try clear hfz28_0
        try clear hfz28_1
        try clear hfz28_2
        try clear hfz28_3
        try clear hfz28_4
        try clear hfz28_5
        try clear hfz28_6
        try clear hfz8_0
        try clear hfz8_1
        try clear hfz8_2
        try clear hfz8_3
        try clear hfz8_4
        try clear hfz8_5
        try clear hfz8_6
        try clear hx102_0
        try clear hx102_1
        try clear hx102_2
        try clear hx102_3
        try clear hx102_4
        try clear hx102_5
        try clear hx102_6
        try clear hx105_0
        try clear hx105_1
        try clear hx105_2
        try clear hx105_3
        try clear hx105_4
        try clear hx105_5
        try clear hx105_6
        try clear hx106_0
        try clear hx106_1
        try clear hx106_2
        try clear hx106_3
        try clear hx106_4
        try clear hx106_5
        try clear hx106_6
        try clear p1
        try clear p10
        try clear p102
        try clear p105
        try clear p106
        try clear p2
        try clear p6
        try clear q1
        try clear q10
        try clear q102
        try clear q105
        try clear q106
        obtain ⟨kq, x62_13, rfl, HA, HJ13, HO_4, BK103, HB⟩ := hcut
        cases kq with
        | zero => exact absurd HA.out (by simp [psalteryref18_Join_raw.j2])
        | succ kj13 =>
         have H := HA.out
         clear HA
         simp only [psalteryref18_Join_raw.j2] at H
         by_cases c29 : x62_13 = true
         ·subst c29
          have H1 : (some (([] : List (List Int)), 7)) = some (r1, r2) := by rw [if_pos rfl] at H; exact H
          clear H
          have H := H1
          clear H1
          simp only [Zib, Zhb] at H
          obtain ⟨rfl, rfl⟩ := H
          go_wp2
          repeat (go_quiet (fail); try go_wp2)
          go_ret2
          exact ⟨_, by first | rfl | (simp [errW_none, errW_some] <;> rfl) | (simp [*, errW_none, errW_some] <;> rfl), by first | exact Kd.S_nil _ _ _ _ _ | exact Kd.N_nil _ _ _ _ _ | exact Kd.V_nil _ _ _ _ _ | exact Kd.Q_nil _ _ _ _ _ | exact Kd.R_nil _ _ _ _ _, by repeat (first | (with_reducible first | exact HB.out | apply Zi | apply Ze | apply Zla | refine Zm ?_ GE103.out) | exact HB.out)⟩
         replace c29 := Bool.eq_false_iff.mpr c29
         subst c29
         have H1 : (psalteryref18_Join_raw.l1 kj13 l0 x4_1 x5_1 0 ((rd_T50 l0 x5_1).f0) ((rd_T50 l0 x5_1).f1) ((rd_T50 l0 x5_1).f2) ((rd_T50 l0 x5_1).f3) ((rd_T50 l0 x5_1).f4) ((rd_T50 l0 x5_1).f5) ((rd_T50 l0 x5_1).f6)) = some (r1, r2) := by rw [if_neg (show ¬ (false = true) by decide)] at H; exact H
         clear H
         have H := H1
         clear H1
         have H' := Zma H
         clear H
         go_wp2
         repeat (go_quiet (fail); try go_wp2)
         go_loopg [4, 8] kj13 (fun kq v4 v8 w' => ∃ (x4_4 : List (List Int)) (x8_4 : Int), v8 = .int .i64 x8_4 ∧ Aside0 (psalteryref18_Join_raw.l1 kq l0 x4_4 x5_1 x8_4 ((rd_T50 l0 x5_1).f0) ((rd_T50 l0 x5_1).f1) ((rd_T50 l0 x5_1).f2) ((rd_T50 l0 x5_1).f3) ((rd_T50 l0 x5_1).f4) ((rd_T50 l0 x5_1).f5) ((rd_T50 l0 x5_1).f6) = some (r1, r2)) ∧ Aside0 (kq ≤ kj13) ∧ Aside0 (Kd.S (Kd.slice 5 (Kd.int .u8)) 28 w' w.heap.size (fun _ => True) v4 x4_4) ∧ Aside0 (w'.heap[gb103]? = some (.cells #[.int .i64 ((rd_T50 l0 x5_1).f0), .int .i64 ((rd_T50 l0 x5_1).f1), .bool ((rd_T50 l0 x5_1).f2), .bool ((rd_T50 l0 x5_1).f3), .bool ((rd_T50 l0 x5_1).f4), .bool ((rd_T50 l0 x5_1).f5), (.slice A102_6 ((rd_T50 l0 x5_1).f6).length c102_6)] 50 (0, 0))) ∧ Aside0 (Below w.heap.size w w'))
         case atStart => exact ⟨(x4_1), (0), (by first | rfl | (simp; done) | (simp [*]; done)), H', ⟨Zra _⟩, ⟨by (with_reducible repeat (first | apply Zy | apply Zx | apply Zz)); exact HO_4.out⟩, ⟨by (with_reducible repeat (first | refine Zk ?_ _ | refine Zl ?_ | refine Zj ?_ _)); exact BK103.out⟩, ⟨by repeat (first | (with_reducible first | exact HB.out | apply Zi | apply Ze | apply Zla | refine Zm ?_ GE103.out) | exact HB.out)⟩⟩
         case round =>
          clear H'
          try clear c1
          try clear p1
          try clear q1
          try clear hx1
          try clear c2
          try clear c2b0
          try clear p2
          try clear c3
          try clear c3b0
          try clear c5
          try clear p6
          try clear c10
          try clear c10b0
          try clear p10
          try clear q10
          try clear hx10
          try clear c12
          try clear c12b0
          try clear c13
          try clear c13b0
          try clear c15
          try clear c15b0
          try clear c15b1
          try clear c15b2
          try clear c17
          try clear c17b0
          try clear c19
          try clear c19b0
          try clear c20
          try clear c20b0
          try clear c21
          try clear c21b0
          try clear c21b1
          try clear c22
          try clear c22b0
          try clear c26
          try clear c26b0
          try clear c29
          try clear hcz16_0
          try clear hcz16_1
          try clear hcz16_2
          try clear hcz16_3
          try clear hcz16_4
          try clear hcz16_5
          try clear hcz16_6
          try clear hcz23_0
          try clear hcz23_1
          try clear hcz23_2
          try clear hcz23_3
          try clear hcz23_4
          try clear hcz23_5
          try clear hcz23_6
          try clear hcz24_0
          try clear hcz24_1
          try clear hcz24_2
          try clear hcz24_3
          try clear hcz24_4
          try clear hcz24_5
          try clear hcz24_6
          try clear hcz25_0
          try clear hcz25_1
          try clear hcz25_2
          try clear hcz25_3
          try clear hcz25_4
          try clear hcz25_5
          try clear hcz25_6
          try clear hcz27_0
          try clear hcz27_1
          try clear hcz27_2
          try clear hcz27_3
          try clear hcz27_4
          try clear hcz27_5
          try clear hcz27_6
          try clear hcz28_0
          try clear hcz28_1
          try clear hcz28_2
          try clear hcz28_3
          try clear hcz28_4
          try clear hcz28_5
          try clear hcz28_6
          try clear hcz8_0
          try clear hcz8_1
          try clear hcz8_2
          try clear hcz8_3
          try clear hcz8_4
          try clear hcz8_5
          try clear hcz8_6
          try clear hfz16_0
          try clear hfz16_1
          try clear hfz16_2
          try clear hfz16_3
          try clear hfz16_4
          try clear hfz16_5
          try clear hfz16_6
          try clear hfz23_0
          try clear hfz23_1
          try clear hfz23_2
          try clear hfz23_3
          try clear hfz23_4
          try clear hfz23_5
          try clear hfz23_6
          try clear hfz24_0
          try clear hfz24_1
          try clear hfz24_2
          try clear hfz24_3
          try clear hfz24_4
          try clear hfz24_5
          try clear hfz24_6
          try clear hfz25_0
          try clear hfz25_1
          try clear hfz25_2
          try clear hfz25_3
          try clear hfz25_4
          try clear hfz25_5
          try clear hfz25_6
          try clear hfz27_0
          try clear hfz27_1
          try clear hfz27_2
          try clear hfz27_3
          try clear hfz27_4
          try clear hfz27_5
          try clear hfz27_6
          try clear hfz28_0
          try clear hfz28_1
          try clear hfz28_2
          try clear hfz28_3
          try clear hfz28_4
          try clear hfz28_5
          try clear hfz28_6
          try clear hfz8_0
          try clear hfz8_1
          try clear hfz8_2
          try clear hfz8_3
          try clear hfz8_4
          try clear hfz8_5
          try clear hfz8_6
          try clear hx102_0
          try clear hx102_1
          try clear hx102_2
          try clear hx102_3
          try clear hx102_4
          try clear hx102_5
          try clear hx102_6
          try clear hx105_0
          try clear hx105_1
          try clear hx105_2
          try clear hx105_3
          try clear hx105_4
          try clear hx105_5
          try clear hx105_6
          try clear hx106_0
          try clear hx106_1
          try clear hx106_2
          try clear hx106_3
          try clear hx106_4
          try clear hx106_5
          try clear hx106_6
          try clear p1
          try clear p10
          try clear p102
          try clear p105
          try clear p106
          try clear p2
          try clear p6
          try clear q1
          try clear q10
          try clear q102
          try clear q105
          try clear q106
          obtain ⟨x4_4, x8_4, rfl, HA, HK4, HO_4, BK103, HB⟩ := hrel
          cases gk with
          | zero => exact absurd HA.out (by simp [psalteryref18_Join_raw.l1])
          | succ k4 =>
           have H := HA.out
           clear HA
           simp only [psalteryref18_Join_raw.l1] at H
           by_cases c30 : x8_4 < (((rd_T50 l0 x5_1).f6).length : Int)
           ·rw [if_pos c30] at H
            have c30b0 : decide (x8_4 < (((rd_T50 l0 x5_1).f6).length : Int)) = true := Zn c30
            clear c30
            obtain ⟨y107, hy107⟩ : ∃ y_ : List Int, y_ = (([] : List Int)) := ⟨_, rfl⟩
            replace H : (if 0 ≤ x8_4 then (if y107.length + (rd_L3 ((rd_T50 l0 x5_1).f6) x8_4).length < 140737488355328 then ((some (y107 ++ (rd_L3 ((rd_T50 l0 x5_1).f6) x8_4) : List Int)).bind fun y111 => (if x8_4 = 0 then (if ((rd_T50 l0 x5_1).f4) = true then ((some (([] : List Int) : List Int)).bind fun y114 => (if 0 ≤ (wrap64 ((x4_4.length : Int) - 1)) then (if (wrap64 ((x4_4.length : Int) - 1)) < (x4_4.length : Int) then (if y114.length + (rd_L3 x4_4 (wrap64 ((x4_4.length : Int) - 1))).length < 140737488355328 then ((some (y114 ++ (rd_L3 x4_4 (wrap64 ((x4_4.length : Int) - 1))) : List Int)).bind fun y118 => (if y118.length + y111.length < 140737488355328 then (if (wrap64 ((x4_4.length : Int) - 1)) ≤ (x4_4.length : Int) then ((some (x4_4.take ((wrap64 ((x4_4.length : Int) - 1)) : Int).toNat : List (List Int))).bind fun y124 => (if y124.length < 5864062014805 then (psalteryref18_Join_raw.l1 k4 l0 (y124 ++ [(y118 ++ y111)]) x5_1 (wrap64 (x8_4 + 1)) ((rd_T50 l0 x5_1).f0) ((rd_T50 l0 x5_1).f1) ((rd_T50 l0 x5_1).f2) ((rd_T50 l0 x5_1).f3) ((rd_T50 l0 x5_1).f4) ((rd_T50 l0 x5_1).f5) ((rd_T50 l0 x5_1).f6)) else (none))) else (none)) else (none))) else (none)) else (none)) else (none))) else (if x4_4.length < 5864062014805 then (psalteryref18_Join_raw.l1 k4 l0 (x4_4 ++ [y111]) x5_1 (wrap64 (x8_4 + 1)) ((rd_T50 l0 x5_1).f0) ((rd_T50 l0 x5_1).f1) ((rd_T50 l0 x5_1).f2) ((rd_T50 l0 x5_1).f3) ((rd_T50 l0 x5_1).f4) ((rd_T50 l0 x5_1).f5) ((rd_T50 l0 x5_1).f6)) else (none))) else (if x4_4.length < 5864062014805 then (psalteryref18_Join_raw.l1 k4 l0 (x4_4 ++ [y111]) x5_1 (wrap64 (x8_4 + 1)) ((rd_T50 l0 x5_1).f0) ((rd_T50 l0 x5_1).f1) ((rd_T50 l0 x5_1).f2) ((rd_T50 l0 x5_1).f3) ((rd_T50 l0 x5_1).f4) ((rd_T50 l0 x5_1).f5) ((rd_T50 l0 x5_1).f6)) else (none)))) else (none)) else (none)) = some (r1, r2) := by first | (rw [hy107]; with_reducible exact H) | (have H2_ := (Zsa _ _).symm.trans H; rw [hy107]; with_reducible exact H2_) | (have H2_ := (Zsa _ _).symm.trans H; with_reducible exact H2_) | with_reducible exact H | (rw [hy107]; exact H) | exact H
            have Ny107 := Zma hy107
            clear hy107
            by_cases c31 : 0 ≤ x8_4
            rotate_left
            ·rw [if_neg c31] at H
             exact absurd H (by simp)
            rw [if_pos c31] at H
            have c31b0 : decide (0 ≤ x8_4) = true := Zn c31
            clear c31
            by_cases c32 : y107.length + (rd_L3 ((rd_T50 l0 x5_1).f6) x8_4).length < 140737488355328
            rotate_left
            ·rw [if_neg c32] at H
             exact absurd H (by simp)
            rw [if_pos c32] at H
            have LMc32 := Zma c32
            clear c32
            obtain ⟨y111, hy111⟩ : ∃ y_ : List Int, y_ = (y107 ++ (rd_L3 ((rd_T50 l0 x5_1).f6) x8_4)) := ⟨_, rfl⟩
            replace H : (if x8_4 = 0 then (if ((rd_T50 l0 x5_1).f4) = true then ((some (([] : List Int) : List Int)).bind fun y114 => (if 0 ≤ (wrap64 ((x4_4.length : Int) - 1)) then (if (wrap64 ((x4_4.length : Int) - 1)) < (x4_4.length : Int) then (if y114.length + (rd_L3 x4_4 (wrap64 ((x4_4.length : Int) - 1))).length < 140737488355328 then ((some (y114 ++ (rd_L3 x4_4 (wrap64 ((x4_4.length : Int) - 1))) : List Int)).bind fun y118 => (if y118.length + y111.length < 140737488355328 then (if (wrap64 ((x4_4.length : Int) - 1)) ≤ (x4_4.length : Int) then ((some (x4_4.take ((wrap64 ((x4_4.length : Int) - 1)) : Int).toNat : List (List Int))).bind fun y124 => (if y124.length < 5864062014805 then (psalteryref18_Join_raw.l1 k4 l0 (y124 ++ [(y118 ++ y111)]) x5_1 (wrap64 (x8_4 + 1)) ((rd_T50 l0 x5_1).f0) ((rd_T50 l0 x5_1).f1) ((rd_T50 l0 x5_1).f2) ((rd_T50 l0 x5_1).f3) ((rd_T50 l0 x5_1).f4) ((rd_T50 l0 x5_1).f5) ((rd_T50 l0 x5_1).f6)) else (none))) else (none)) else (none))) else (none)) else (none)) else (none))) else (if x4_4.length < 5864062014805 then (psalteryref18_Join_raw.l1 k4 l0 (x4_4 ++ [y111]) x5_1 (wrap64 (x8_4 + 1)) ((rd_T50 l0 x5_1).f0) ((rd_T50 l0 x5_1).f1) ((rd_T50 l0 x5_1).f2) ((rd_T50 l0 x5_1).f3) ((rd_T50 l0 x5_1).f4) ((rd_T50 l0 x5_1).f5) ((rd_T50 l0 x5_1).f6)) else (none))) else (if x4_4.length < 5864062014805 then (psalteryref18_Join_raw.l1 k4 l0 (x4_4 ++ [y111]) x5_1 (wrap64 (x8_4 + 1)) ((rd_T50 l0 x5_1).f0) ((rd_T50 l0 x5_1).f1) ((rd_T50 l0 x5_1).f2) ((rd_T50 l0 x5_1).f3) ((rd_T50 l0 x5_1).f4) ((rd_T50 l0 x5_1).f5) ((rd_T50 l0 x5_1).f6)) else (none))) = some (r1, r2) := by first | (rw [hy111]; with_reducible exact H) | (have H2_ := (Zsa _ _).symm.trans H; rw [hy111]; with_reducible exact H2_) | (have H2_ := (Zsa _ _).symm.trans H; with_reducible exact H2_) | with_reducible exact H | (rw [hy111]; exact H) | exact H
            have Ny111 := Zma hy111
            clear hy111
            by_cases c33 : x8_4 = 0
            ·rw [if_pos c33] at H
             have c33b0 : (x8_4 == 0) = true := beq_iff_eq.mpr c33
             have c33b1 : (x8_4 != 0) = false := bne_eq_false_iff_eq.mpr c33
             clear c33
             by_cases c34 : ((rd_T50 l0 x5_1).f4) = true
             ·rw [if_pos c34] at H
              have c34b0 : ((rd_T50 l0 x5_1).f4) = true := c34
              clear c34
              obtain ⟨y114, hy114⟩ : ∃ y_ : List Int, y_ = (([] : List Int)) := ⟨_, rfl⟩
              replace H : (if 0 ≤ (wrap64 ((x4_4.length : Int) - 1)) then (if (wrap64 ((x4_4.length : Int) - 1)) < (x4_4.length : Int) then (if y114.length + (rd_L3 x4_4 (wrap64 ((x4_4.length : Int) - 1))).length < 140737488355328 then ((some (y114 ++ (rd_L3 x4_4 (wrap64 ((x4_4.length : Int) - 1))) : List Int)).bind fun y118 => (if y118.length + y111.length < 140737488355328 then (if (wrap64 ((x4_4.length : Int) - 1)) ≤ (x4_4.length : Int) then ((some (x4_4.take ((wrap64 ((x4_4.length : Int) - 1)) : Int).toNat : List (List Int))).bind fun y124 => (if y124.length < 5864062014805 then (psalteryref18_Join_raw.l1 k4 l0 (y124 ++ [(y118 ++ y111)]) x5_1 (wrap64 (x8_4 + 1)) ((rd_T50 l0 x5_1).f0) ((rd_T50 l0 x5_1).f1) ((rd_T50 l0 x5_1).f2) ((rd_T50 l0 x5_1).f3) ((rd_T50 l0 x5_1).f4) ((rd_T50 l0 x5_1).f5) ((rd_T50 l0 x5_1).f6)) else (none))) else (none)) else (none))) else (none)) else (none)) else (none)) = some (r1, r2) := by first | (rw [hy114]; with_reducible exact H) | (have H2_ := (Zsa _ _).symm.trans H; rw [hy114]; with_reducible exact H2_) | (have H2_ := (Zsa _ _).symm.trans H; with_reducible exact H2_) | with_reducible exact H | (rw [hy114]; exact H) | exact H
              have Ny114 := Zma hy114
              clear hy114
              obtain ⟨ji35, hji35⟩ : ∃ j_ : Int, (wrap64 ((x4_4.length : Int) - 1)) = j_ := ⟨_, rfl⟩
              replace H : (if 0 ≤ (ji35) then (if (ji35) < (x4_4.length : Int) then (if y114.length + (rd_L3 x4_4 (ji35)).length < 140737488355328 then ((some (y114 ++ (rd_L3 x4_4 (ji35)) : List Int)).bind fun y118 => (if y118.length + y111.length < 140737488355328 then (if (ji35) ≤ (x4_4.length : Int) then ((some (x4_4.take ((ji35) : Int).toNat : List (List Int))).bind fun y124 => (if y124.length < 5864062014805 then (psalteryref18_Join_raw.l1 k4 l0 (y124 ++ [(y118 ++ y111)]) x5_1 (wrap64 (x8_4 + 1)) ((rd_T50 l0 x5_1).f0) ((rd_T50 l0 x5_1).f1) ((rd_T50 l0 x5_1).f2) ((rd_T50 l0 x5_1).f3) ((rd_T50 l0 x5_1).f4) ((rd_T50 l0 x5_1).f5) ((rd_T50 l0 x5_1).f6)) else (none))) else (none)) else (none))) else (none)) else (none)) else (none)) = some (r1, r2) := by first | (rw [hji35] at H; exact H) | (simp only [hji35] at H ⊢; exact H)
              have hji35w : (IntKind.i64.wrap ((x4_4.length : Int) - 1)) = ji35 := (i64_w _).trans hji35
              by_cases c36 : 0 ≤ (ji35)
              rotate_left
              ·rw [if_neg c36] at H
               exact absurd H (by simp)
              rw [if_pos c36] at H
              have c36b0 : decide (0 ≤ (ji35)) = true := Zn c36
              clear c36
              by_cases c37 : (ji35) < (x4_4.length : Int)
              rotate_left
              ·rw [if_neg c37] at H
               exact absurd H (by simp)
              rw [if_pos c37] at H
              have c37b0 : decide ((ji35) < (x4_4.length : Int)) = true := Zn c37
              clear c37
              by_cases c38 : y114.length + (rd_L3 x4_4 (ji35)).length < 140737488355328
              rotate_left
              ·rw [if_neg c38] at H
               exact absurd H (by simp)
              rw [if_pos c38] at H
              have LMc38 := Zma c38
              clear c38
              obtain ⟨y118, hy118⟩ : ∃ y_ : List Int, y_ = (y114 ++ (rd_L3 x4_4 (ji35))) := ⟨_, rfl⟩
              replace H : (if y118.length + y111.length < 140737488355328 then (if (ji35) ≤ (x4_4.length : Int) then ((some (x4_4.take ((ji35) : Int).toNat : List (List Int))).bind fun y124 => (if y124.length < 5864062014805 then (psalteryref18_Join_raw.l1 k4 l0 (y124 ++ [(y118 ++ y111)]) x5_1 (wrap64 (x8_4 + 1)) ((rd_T50 l0 x5_1).f0) ((rd_T50 l0 x5_1).f1) ((rd_T50 l0 x5_1).f2) ((rd_T50 l0 x5_1).f3) ((rd_T50 l0 x5_1).f4) ((rd_T50 l0 x5_1).f5) ((rd_T50 l0 x5_1).f6)) else (none))) else (none)) else (none)) = some (r1, r2) := by first | (rw [hy118]; with_reducible exact H) | (have H2_ := (Zsa _ _).symm.trans H; rw [hy118]; with_reducible exact H2_) | (have H2_ := (Zsa _ _).symm.trans H; with_reducible exact H2_) | with_reducible exact H | (rw [hy118]; exact H) | exact H
              have Ny118 := Zma hy118
              clear hy118
              by_cases c39 : y118.length + y111.length < 140737488355328
              rotate_left
              ·rw [if_neg c39] at H
               exact absurd H (by simp)
              rw [if_pos c39] at H
              have LMc39 := Zma c39
              clear c39
              obtain ⟨y121, hy121⟩ : ∃ y_ : List Int, y_ = (y118 ++ y111) := ⟨_, rfl⟩
              replace H : (if (ji35) ≤ (x4_4.length : Int) then ((some (x4_4.take ((ji35) : Int).toNat : List (List Int))).bind fun y124 => (if y124.length < 5864062014805 then (psalteryref18_Join_raw.l1 k4 l0 (y124 ++ [y121]) x5_1 (wrap64 (x8_4 + 1)) ((rd_T50 l0 x5_1).f0) ((rd_T50 l0 x5_1).f1) ((rd_T50 l0 x5_1).f2) ((rd_T50 l0 x5_1).f3) ((rd_T50 l0 x5_1).f4) ((rd_T50 l0 x5_1).f5) ((rd_T50 l0 x5_1).f6)) else (none))) else (none)) = some (r1, r2) := by first | (rw [hy121]; with_reducible exact H) | (have H2_ := (Zsa _ _).symm.trans H; rw [hy121]; with_reducible exact H2_) | (have H2_ := (Zsa _ _).symm.trans H; with_reducible exact H2_) | with_reducible exact H | (rw [hy121]; exact H) | exact H
              have Ny121 := Zma hy121
              clear hy121
              by_cases c40 : (ji35) ≤ (x4_4.length : Int)
              rotate_left
              ·rw [if_neg c40] at H
               exact absurd H (by simp)
              rw [if_pos c40] at H
              have c40b0 := Zja c40
              have c40b1 : decide ((ji35) ≤ (x4_4.length : Int)) = true := Zn c40
              clear c40
              obtain ⟨y124, hy124⟩ : ∃ y_ : List (List Int), y_ = (x4_4.take ((ji35) : Int).toNat) := ⟨_, rfl⟩
              replace H : (if y124.length < 5864062014805 then (psalteryref18_Join_raw.l1 k4 l0 (y124 ++ [y121]) x5_1 (wrap64 (x8_4 + 1)) ((rd_T50 l0 x5_1).f0) ((rd_T50 l0 x5_1).f1) ((rd_T50 l0 x5_1).f2) ((rd_T50 l0 x5_1).f3) ((rd_T50 l0 x5_1).f4) ((rd_T50 l0 x5_1).f5) ((rd_T50 l0 x5_1).f6)) else (none)) = some (r1, r2) := by first | (rw [hy124]; with_reducible exact H) | (have H2_ := (Zsa _ _).symm.trans H; rw [hy124]; with_reducible exact H2_) | (have H2_ := (Zsa _ _).symm.trans H; with_reducible exact H2_) | with_reducible exact H | (rw [hy124]; exact H) | exact H
              have Ny124 := Zma hy124
              clear hy124
              by_cases c41 : y124.length < 5864062014805
              rotate_left
              ·rw [if_neg c41] at H
               exact absurd H (by simp)
              rw [if_pos c41] at H
              have LMc41 := Zma c41
              clear c41
              obtain ⟨y127, hy127⟩ : ∃ y_ : List (List Int), y_ = (y124 ++ [y121]) := ⟨_, rfl⟩
              replace H : (psalteryref18_Join_raw.l1 k4 l0 y127 x5_1 (wrap64 (x8_4 + 1)) ((rd_T50 l0 x5_1).f0) ((rd_T50 l0 x5_1).f1) ((rd_T50 l0 x5_1).f2) ((rd_T50 l0 x5_1).f3) ((rd_T50 l0 x5_1).f4) ((rd_T50 l0 x5_1).f5) ((rd_T50 l0 x5_1).f6)) = some (r1, r2) := by first | (rw [hy127]; with_reducible exact H) | (have H2_ := (Zsa _ _).symm.trans H; rw [hy127]; with_reducible exact H2_) | (have H2_ := (Zsa _ _).symm.trans H; with_reducible exact H2_) | with_reducible exact H | (rw [hy127]; exact H) | exact H
              have Ny127 := Zma hy127
              clear hy127
              have H' := Zma H
              clear H
              obtain ⟨hcz42_0, hcz42_1, hcz42_2, hcz42_3, hcz42_4, hcz42_5, hcz42_6, hfz42_0, hfz42_1, hfz42_2, hfz42_3, hfz42_4, hfz42_5, hfz42_6⟩ := blk7 BK103.out
              go_wp2_with (first | ((with_reducible refine gate_dst (N := 70) rfl ?_); (try (refine gate_guard (by rfl) ?_; dsimp only)); refine Kd.R_lit (Kd.int .u8) _ 5 ?hg (N := 70) ?hd (xs := ([] : List Int)) (inner := []) (ok := fun _ => True) (okp := fun _ => True) ?hr ?hp (fun _ hk => hk) trivial (Below.refl _ _) (Zra _) (by simp) ?_; (case hd => rfl); (case hg => rfl); (case hr => first | (go_simp; done) | (go_simp; rfl)); (case hp => exact (Reps.none _ _)); intro v108 w43 ho44 hb hg_ hnew_; clear hg_ hnew_; (first | rw [← Ny107.out] at ho44 | (simp only [Int.reduceToNat] at ho44; rw [← Ny107.out] at ho44)); have n0_ := Zma (Kd.S_elder' (by (with_reducible repeat (first | apply Zy | apply Zx | apply Zz)); exact HO_4.out) (Kd.R_base ho44) hb); have n1_ := Zma (Zxa ho44 (Zfa (by repeat (first | (with_reducible first | exact HB.out | apply Zi | apply Ze | apply Zla | refine Zm ?_ GE103.out) | exact HB.out)))); have n2_ := Zma (Zab (g := gb103) (o := .cells #[.int .i64 ((rd_T50 l0 x5_1).f0), .int .i64 ((rd_T50 l0 x5_1).f1), .bool ((rd_T50 l0 x5_1).f2), .bool ((rd_T50 l0 x5_1).f3), .bool ((rd_T50 l0 x5_1).f4), .bool ((rd_T50 l0 x5_1).f5), .slice A102_6 ((rd_T50 l0 x5_1).f6).length c102_6] 50 (0, 0)) (by (with_reducible repeat (first | refine Zk ?_ _ | refine Zl ?_ | refine Zj ?_ _)); exact BK103.out) hb); have n3_ := Zma (Zoa (by repeat (first | (with_reducible first | exact HB.out | apply Zi | apply Ze | apply Zla | refine Zm ?_ GE103.out) | exact HB.out)) hb); clear HO_4 BK103 HB; have HO_4 := n0_; have HO109 := n1_; have BK103 := n2_; have HB := n3_; clear n0_ n1_ n2_ n3_ hb ho44; obtain ⟨hcz45_0, hcz45_1, hcz45_2, hcz45_3, hcz45_4, hcz45_5, hcz45_6, hfz45_0, hfz45_1, hfz45_2, hfz45_3, hfz45_4, hfz45_5, hfz45_6⟩ := blk7 BK103.out; have p110 : 0 ≤ (x8_4 : Int) := Zg (by first | (with_reducible assumption) | assumption); have q110 : x8_4 < (((rd_T50 l0 x5_1).f6).length : Int) := Zg (by first | (with_reducible assumption) | assumption); obtain ⟨ad110, A110_0, c110_0, e110, hx110_0, hl110_0, hi110_0⟩ := at_L3 HR102_6.out x8_4 p110 q110; cases e110; replace hx110_0 := (HB.out.cell (Zh w _ hx110_0)).trans hx110_0; have HR110_0 := Zma hi110_0; have HC110_0 := Zma hl110_0; clear hi110_0 hl110_0; replace p110 := Zja p110; replace q110 := Zja q110) | ((with_reducible refine gate_builtin (b := .append) (xs := #[.tmp 70, .tmp 75]) rfl ?_); (try (refine gate_guard (by rfl) ?_; dsimp only)); at_builtin; refine Kd.R_append_rows (Kd.int .u8) (w0 := w) w.heap.size rfl (.tmp 70) (.tmp 75) 28 5 (.int .u8 0) 1 rfl Try.underlying28 info5 rfl (by decide) (by omega) v108 y107 (rd_L3 ((rd_T50 l0 x5_1).f6) x8_4) _ _ _ (fun _ => True) (fun _ => False) rfl rfl ?aO ?aR (fun _ _ h => h) (fun _ h => h.elim) ?aF ?aB ?aS ?aL ?_; (case aR => repeat (first | exact (Kd.C_below HR110_0.out HB.out) | (with_reducible refine Zba ?_ _) | (with_reducible refine Zaa ?_ _) | (with_reducible refine Zca ?_))); (case aB => exact (by repeat (first | (with_reducible first | exact HB.out | apply Zi | apply Ze | apply Zla | refine Zm ?_ GE103.out) | exact HB.out))); (case aF => exact (fun _ _ => trivial)); (case aO => exact (by (with_reducible repeat (first | apply Zp | apply Zo | apply Zq)); exact HO109.out)); (case aS => exact (Zfa (by repeat (first | (with_reducible first | exact HB.out | apply Zi | apply Ze | apply Zla | refine Zm ?_ GE103.out) | exact HB.out)))); (case aL => have := LMc32.out; omega); intro v112 w46 ho hb hg hat; rw [← Ny111.out] at ho; have n0_ := Zma (Kd.S_after (ok := (fun _ => True)) (by (with_reducible repeat (first | apply Zy | apply Zx | apply Zz)); exact HO_4.out) hg hat); have n1_ := Zma (blk_grown (g := gb103) (o := .cells #[.int .i64 ((rd_T50 l0 x5_1).f0), .int .i64 ((rd_T50 l0 x5_1).f1), .bool ((rd_T50 l0 x5_1).f2), .bool ((rd_T50 l0 x5_1).f3), .bool ((rd_T50 l0 x5_1).f4), .bool ((rd_T50 l0 x5_1).f5), .slice (some ad110) ((rd_T50 l0 x5_1).f6).length c102_6] 50 (0, 0)) (by (with_reducible repeat (first | refine Zk ?_ _ | refine Zl ?_ | refine Zj ?_ _)); exact BK103.out) hg (Kd.R_ne HO109.out BK103.out (by decide))); have n2_ := Zma (hb); have n3_ := Zma (ho); clear HO_4 BK103 HB HO109; have HO_4 := n0_; have BK103 := n1_; have HB := n2_; have HO113 := n3_; clear n0_ n1_ n2_ n3_ ho hb hg hat; obtain ⟨hcz47_0, hcz47_1, hcz47_2, hcz47_3, hcz47_4, hcz47_5, hcz47_6, hfz47_0, hfz47_1, hfz47_2, hfz47_3, hfz47_4, hfz47_5, hfz47_6⟩ := blk7 BK103.out) | ((with_reducible refine gate_dst (N := 83) rfl ?_); (try (refine gate_guard (by rfl) ?_; dsimp only)); refine Kd.R_lit (Kd.int .u8) _ 5 ?hg (N := 83) ?hd (xs := ([] : List Int)) (inner := []) (ok := fun _ => True) (okp := fun _ => True) ?hr ?hp (fun _ hk => hk) trivial (Below.refl _ _) (Zra _) (by simp) ?_; (case hd => rfl); (case hg => rfl); (case hr => first | (go_simp; done) | (go_simp; rfl)); (case hp => exact (Reps.none _ _)); intro v115 w48 ho49 hb hg_ hnew_; clear hg_ hnew_; (first | rw [← Ny114.out] at ho49 | (simp only [Int.reduceToNat] at ho49; rw [← Ny114.out] at ho49)); have n0_ := Zma (Kd.S_elder' (by (with_reducible repeat (first | apply Zy | apply Zx | apply Zz)); exact HO_4.out) (Kd.R_base ho49) hb); have n1_ := Zma (Kd.R_elder' (by (with_reducible repeat (first | apply Zp | apply Zo | apply Zq)); exact HO113.out) (Kd.R_base ho49) hb); have n2_ := Zma (Zxa (Kd.R_new' ho49 (Kd.R_lt (by (with_reducible repeat (first | apply Zp | apply Zo | apply Zq)); exact HO113.out))) (Zfa (by repeat (first | (with_reducible first | exact HB.out | apply Zi | apply Ze | apply Zla | refine Zm ?_ GE103.out) | exact HB.out)))); have n3_ := Zma (Zab (g := gb103) (o := .cells #[.int .i64 ((rd_T50 l0 x5_1).f0), .int .i64 ((rd_T50 l0 x5_1).f1), .bool ((rd_T50 l0 x5_1).f2), .bool ((rd_T50 l0 x5_1).f3), .bool ((rd_T50 l0 x5_1).f4), .bool ((rd_T50 l0 x5_1).f5), .slice (some ad110) ((rd_T50 l0 x5_1).f6).length c102_6] 50 (0, 0)) (by (with_reducible repeat (first | refine Zk ?_ _ | refine Zl ?_ | refine Zj ?_ _)); exact BK103.out) hb); have n4_ := Zma (Zoa (by repeat (first | (with_reducible first | exact HB.out | apply Zi | apply Ze | apply Zla | refine Zm ?_ GE103.out) | exact HB.out)) hb); clear HO_4 HO113 BK103 HB; have HO_4 := n0_; have HO113 := n1_; have HO116 := n2_; have BK103 := n3_; have HB := n4_; clear n0_ n1_ n2_ n3_ n4_ hb ho49; obtain ⟨Ao50, co50, eo50⟩ := Kd.S_slice HO_4.out; subst eo50; have p117 : 0 ≤ ((ji35) : Int) := Zg (by first | (with_reducible assumption) | assumption); have q117 : (ji35) < (x4_4.length : Int) := Zg (by first | (with_reducible assumption) | assumption); obtain ⟨ad117, A117_0, c117_0, e117, hx117_0, hl117_0, hi117_0⟩ := at_L3 (Kd.S_reads' HO_4.out).2.2 (ji35) p117 q117; cases e117; obtain ⟨ce117, hce117, hMe117, hcc117⟩ := Kd.S_get HO_4.out [] (ji35) p117 (by first | exact q117 | exact Zg (by first | (with_reducible assumption) | assumption) | (have e_ := (Kd.S_reads' HO_4.out).1; omega)); obtain ⟨ve117_0, rfl, ge117_0⟩ := hMe117; have hv117_0 := hcc117 0 _ rfl; rw [Nat.add_zero, show ((Kd.slice 5 (Kd.int .u8))).sz = 1 from rfl, Nat.mul_one] at hv117_0; replace hv117_0 := Zgb (hv117_0.symm.trans hx117_0); rw [hv117_0] at ge117_0; have HL117_0 := Zma (show Kd.R (Kd.int .u8) 5 _ _ _ _ (rd_L3 x4_4 (ji35)) from ge117_0); clear hv117_0 ge117_0 hcc117 hce117; have HR117_0 := Zma hi117_0; have HC117_0 := Zma hl117_0; clear hi117_0 hl117_0; replace p117 := Zja p117; replace q117 := Zja q117) | ((with_reducible refine gate_builtin (b := .append) (xs := #[.tmp 83, .tmp 89]) rfl ?_); (try (refine gate_guard (by rfl) ?_; dsimp only)); at_builtin; refine Kd.R_append_rows (Kd.int .u8) (w0 := w) w.heap.size rfl (.tmp 83) (.tmp 89) 28 5 (.int .u8 0) 1 rfl Try.underlying28 info5 rfl (by decide) (by omega) v115 y114 (rd_L3 x4_4 (ji35)) _ _ _ (fun k_ => some k_ ≠ (v112 : Value).ownBlock) (fun _ => False) rfl rfl ?aO ?aR (fun _ _ h => h) (fun _ h => h.elim) ?aF ?aB ?aS ?aL ?_; (case aR => repeat (first | exact (by repeat (first | (with_reducible exact HR117_0.out) | (with_reducible refine Zba ?_ _) | (with_reducible refine Zaa ?_ _) | (with_reducible refine Zca ?_) | exact HR117_0.out)) | (with_reducible refine Zba ?_ _) | (with_reducible refine Zaa ?_ _) | (with_reducible refine Zca ?_))); (case aB => exact (by repeat (first | (with_reducible first | exact HB.out | apply Zi | apply Ze | apply Zla | refine Zm ?_ GE103.out) | exact HB.out))); (case aF => exact (fun k_ hk => Kd.fresh' (Kd.R_lt (by (with_reducible repeat (first | apply Zp | apply Zo | apply Zq)); exact HO113.out)) k_ hk)); (case aO => exact (by (with_reducible repeat (first | apply Zp | apply Zo | apply Zq)); exact Kd.R_mono HO116.out (fun _ hk => hk.2))); (case aS => exact (Zfa (by repeat (first | (with_reducible first | exact HB.out | apply Zi | apply Ze | apply Zla | refine Zm ?_ GE103.out) | exact HB.out)))); (case aL => have := LMc38.out; omega); intro v119 w51 ho hb hg hat; rw [← Ny118.out] at ho; have n0_ := Zma (Kd.S_after (ok := (fun k_ => some k_ ≠ (v112 : Value).ownBlock)) (by (with_reducible repeat (first | apply Zy | apply Zx | apply Zz)); exact Kd.S_mono HO_4.out (fun _ hk => ⟨hk.1.2, hk.2⟩)) hg hat); have n1_ := Zma (blk_grown (g := gb103) (o := .cells #[.int .i64 ((rd_T50 l0 x5_1).f0), .int .i64 ((rd_T50 l0 x5_1).f1), .bool ((rd_T50 l0 x5_1).f2), .bool ((rd_T50 l0 x5_1).f3), .bool ((rd_T50 l0 x5_1).f4), .bool ((rd_T50 l0 x5_1).f5), .slice (some ad110) ((rd_T50 l0 x5_1).f6).length c102_6] 50 (0, 0)) (by (with_reducible repeat (first | refine Zk ?_ _ | refine Zl ?_ | refine Zj ?_ _)); exact BK103.out) hg (Kd.R_ne HO116.out BK103.out (by decide))); have n2_ := Zma (Kd.R_after (ok := (fun _ => True)) (by (with_reducible repeat (first | apply Zp | apply Zo | apply Zq)); exact HO113.out) hg hat); have n3_ := Zma (Kd.R_after (ok := (fun k_ => some k_ ≠ (.slice (some ad117) x4_4.length co50 : Value).ownBlock ∧ some k_ ≠ (v112 : Value).ownBlock)) (by (with_reducible repeat (first | apply Zp | apply Zo | apply Zq)); exact Kd.R_mono HL117_0.out (fun _ hk => ⟨⟨hk.2, hk.1.1.2⟩, hk.1.2⟩)) hg hat); have n4_ := Zma (hb); have n5_ := Zma (ho); clear HO_4 BK103 HO113 HL117_0 HB HO116; have HO_4 := n0_; have BK103 := n1_; have HO113 := n2_; have HL117_0 := n3_; have HB := n4_; have HO120 := n5_; clear n0_ n1_ n2_ n3_ n4_ n5_ ho hb hg hat; obtain ⟨Ao53, co53, eo53⟩ := Kd.R_slice HO113.out; subst eo53) | ((with_reducible refine gate_builtin (b := .append) (xs := #[.tmp 90, .tmp 91]) rfl ?_); (try (refine gate_guard (by rfl) ?_; dsimp only)); at_builtin; refine Kd.R_append_rows (Kd.int .u8) (w0 := w) w.heap.size rfl (.tmp 90) (.tmp 91) 28 5 (.int .u8 0) 1 rfl Try.underlying28 info5 rfl (by decide) (by omega) v119 y118 y111 _ _ _ (fun k_ => some k_ ≠ (.slice Ao53 y111.length co53 : Value).ownBlock) (fun _ => False) rfl rfl ?aO ?aR (fun _ _ h => h) (fun _ h => h.elim) ?aF ?aB ?aS ?aL ?_; (case aR => repeat (first | exact (Zkb HO113.out).2.2 | (with_reducible refine Zba ?_ _) | (with_reducible refine Zaa ?_ _) | (with_reducible refine Zca ?_))); (case aB => exact (by repeat (first | (with_reducible first | exact HB.out | apply Zi | apply Ze | apply Zla | refine Zm ?_ GE103.out) | exact HB.out))); (case aF => exact (fun k_ hk => Kd.fresh' (Kd.R_lt (by (with_reducible repeat (first | apply Zp | apply Zo | apply Zq)); exact HO113.out)) k_ hk)); (case aO => exact (by (with_reducible repeat (first | apply Zp | apply Zo | apply Zq)); exact HO120.out)); (case aS => exact (Zfa (by repeat (first | (with_reducible first | exact HB.out | apply Zi | apply Ze | apply Zla | refine Zm ?_ GE103.out) | exact HB.out)))); (case aL => have := LMc39.out; omega); intro v122 w52 ho hb hg hat; rw [← Ny121.out] at ho; have n0_ := Zma (Kd.S_after (ok := (fun k_ => some k_ ≠ (.slice Ao53 y111.length co53 : Value).ownBlock)) (by (with_reducible repeat (first | apply Zy | apply Zx | apply Zz)); exact HO_4.out) hg hat); have n1_ := Zma (blk_grown (g := gb103) (o := .cells #[.int .i64 ((rd_T50 l0 x5_1).f0), .int .i64 ((rd_T50 l0 x5_1).f1), .bool ((rd_T50 l0 x5_1).f2), .bool ((rd_T50 l0 x5_1).f3), .bool ((rd_T50 l0 x5_1).f4), .bool ((rd_T50 l0 x5_1).f5), .slice (some ad110) ((rd_T50 l0 x5_1).f6).length c102_6] 50 (0, 0)) (by (with_reducible repeat (first | refine Zk ?_ _ | refine Zl ?_ | refine Zj ?_ _)); exact BK103.out) hg (Kd.R_ne HO120.out BK103.out (by decide))); have n2_ := Zma (Kd.R_after (ok := (fun _ => True)) (by (with_reducible repeat (first | apply Zp | apply Zo | apply Zq)); exact HO113.out) hg hat); have n3_ := Zma (Kd.R_after (ok := (fun k_ => some k_ ≠ (.slice (some ad117) x4_4.length co50 : Value).ownBlock ∧ some k_ ≠ (.slice Ao53 y111.length co53 : Value).ownBlock)) (by (with_reducible repeat (first | apply Zp | apply Zo | apply Zq)); exact HL117_0.out) hg hat); have n4_ := Zma (hb); have n5_ := Zma (ho); clear HO_4 BK103 HO113 HL117_0 HB HO120; have HO_4 := n0_; have BK103 := n1_; have HO113 := n2_; have HL117_0 := n3_; have HB := n4_; have HO123 := n5_; clear n0_ n1_ n2_ n3_ n4_ n5_ ho hb hg hat; have q54 : ((ji35) : Int) ≤ ((x4_4.length : Int) : Int) := Zg (by first | (with_reducible assumption) | assumption); obtain ⟨i054, hi054, _, hsz54, _⟩ := info_parts info28; have hcut54 := cut_to (P := Try.prog) 41 28 .i64 Try.underlying41 hi054 (some ad117) x4_4.length co50 (ji35) (Zg (by first | (with_reducible assumption) | assumption)) q54 (Kd.S_reads' HO_4.out).2.1; have hr54 := Kd.S_take (m := ((ji35) : Int).toNat) HO_4.out (by omega); have hy54 : y124.length = ((ji35) : Int).toNat := (by rw [Ny124.out, Zga]; omega); rw [← Ny124.out] at hr54; rw [← hy54] at hr54 hcut54; clear hy54 hi054 hsz54 HO_4; have HO126 := Zma hr54; clear hr54; replace q54 := Zja q54; obtain ⟨Ao56, co56, eo56⟩ := Kd.R_slice HO123.out; subst eo56) | ((with_reducible refine gate_builtin (b := .append) (xs := #[.tmp 98, .tmp 100]) rfl ?_); (try (refine gate_guard (by rfl) ?_; dsimp only)); at_builtin; refine Kd.S_append (Kd.slice 5 (Kd.int .u8)) (w0 := w) w.heap.size rfl (.tmp 98) (.tmp 100) 41 28 (.slice none 0 0) 24 rfl Try.underlying41 info28 rfl (by decide) (by omega) (.slice (some ad117) y124.length co50) y124 y121 [.slice Ao56 y121.length co56] (fun k_ => some k_ ≠ (.slice Ao53 y111.length co53 : Value).ownBlock) (fun k_ => some k_ = (.slice Ao56 y121.length co56 : Value).ownBlock) rfl rfl ?aP (fun k_ hk_ => ((Kd.R_mono (ok' := fun k_ => ((fun k_ => some k_ ≠ (.slice Ao53 y111.length co53 : Value).ownBlock)) k_ ∧ some k_ ≠ (.slice (some ad117) y124.length co50 : Value).ownBlock) (Kd.R_apart' (HO123.out) (Kd.S_typed HO126.out) (by decide)) (fun k_ hk => ⟨hk.1, hk.2⟩))).1 k_ hk_.symm) ?aF ?aO ?aB ?aS ?aL ?_; (case aP => exact Kd.M_row (Kd.R_mono (Kd.R_tight rfl (Kd.R_mono (ok' := fun k_ => ((fun k_ => some k_ ≠ (.slice Ao53 y111.length co53 : Value).ownBlock)) k_ ∧ some k_ ≠ (.slice (some ad117) y124.length co50 : Value).ownBlock) (Kd.R_apart' (HO123.out) (Kd.S_typed HO126.out) (by decide)) (fun k_ hk => ⟨hk.1, hk.2⟩))) (fun _ h_ => h_))); (case aB => exact (by repeat (first | (with_reducible first | exact HB.out | apply Zi | apply Ze | apply Zla | refine Zm ?_ GE103.out) | exact HB.out))); (case aF => exact (fun k_ hk => Kd.fresh' (Kd.R_lt (by (with_reducible repeat (first | apply Zp | apply Zo | apply Zq)); exact HO113.out)) k_ hk)); (case aO => exact (by (with_reducible repeat (first | apply Zy | apply Zx | apply Zz)); exact Kd.S_mono HO126.out (fun k_ hk => ⟨hk.1, fun e_ => hk.2 e_⟩))); (case aS => exact (Zfa (by repeat (first | (with_reducible first | exact HB.out | apply Zi | apply Ze | apply Zla | refine Zm ?_ GE103.out) | exact HB.out)))); (case aL => have := LMc41.out; omega); intro v128 w55 ho hb hg hat; rw [← Ny127.out] at ho; have n0_ := Zma (blk_grown (g := gb103) (o := .cells #[.int .i64 ((rd_T50 l0 x5_1).f0), .int .i64 ((rd_T50 l0 x5_1).f1), .bool ((rd_T50 l0 x5_1).f2), .bool ((rd_T50 l0 x5_1).f3), .bool ((rd_T50 l0 x5_1).f4), .bool ((rd_T50 l0 x5_1).f5), .slice (some ad110) ((rd_T50 l0 x5_1).f6).length c102_6] 50 (0, 0)) (by (with_reducible repeat (first | refine Zk ?_ _ | refine Zl ?_ | refine Zj ?_ _)); exact BK103.out) hg (Kd.S_ne HO126.out BK103.out (by decide))); have n1_ := Zma (Kd.R_over' (by (with_reducible repeat (first | apply Zp | apply Zo | apply Zq)); exact HO113.out) (Kd.S_typed (by (with_reducible repeat (first | apply Zy | apply Zx | apply Zz)); exact HO126.out)) (by decide) hg); have n2_ := Zma (Kd.R_after (ok := (fun k_ => some k_ ≠ (.slice Ao53 y111.length co53 : Value).ownBlock ∧ some k_ ≠ (.slice Ao56 y121.length co56 : Value).ownBlock)) (by (with_reducible repeat (first | apply Zp | apply Zo | apply Zq)); exact Kd.R_mono HL117_0.out (fun _ hk => ⟨⟨hk.1.2, hk.2⟩, hk.1.1⟩)) hg hat); have n3_ := Zma (hb); have n4_ := Zma (ho); clear BK103 HO113 HL117_0 HB HO126 HO123; have BK103 := n0_; have HO113 := n1_; have HL117_0 := n2_; have HB := n3_; have HO129 := n4_; clear n0_ n1_ n2_ n3_ n4_ ho hb hg hat))
              go_roundg k4
              case measure => have := HK1.out; have := HJ5.out; have := HJ13.out; have := HK4.out; omega
              case rel => exact ⟨(y127), (wrap64 (x8_4 + 1)), (by first | rfl | (simp; done) | (simp [*]; done)), H', ⟨by have := HK1.out; have := HJ5.out; have := HJ13.out; have := HK4.out; omega⟩, ⟨by (with_reducible repeat (first | apply Zy | apply Zx | apply Zz)); exact Kd.S_mono HO129.out (fun _ hk => trivial)⟩, ⟨by (with_reducible repeat (first | refine Zk ?_ _ | refine Zl ?_ | refine Zj ?_ _)); exact BK103.out⟩, ⟨by repeat (first | (with_reducible first | exact HB.out | apply Zi | apply Ze | apply Zla | refine Zm ?_ GE103.out) | exact HB.out)⟩⟩
             rw [if_neg c34] at H
             have c34b0 : ((rd_T50 l0 x5_1).f4) = false := by simpa using c34
             clear c34
             by_cases c57 : x4_4.length < 5864062014805
             rotate_left
             ·rw [if_neg c57] at H
              exact absurd H (by simp)
             rw [if_pos c57] at H
             have LMc57 := Zma c57
             clear c57
             obtain ⟨y130, hy130⟩ : ∃ y_ : List (List Int), y_ = (x4_4 ++ [y111]) := ⟨_, rfl⟩
             replace H : (psalteryref18_Join_raw.l1 k4 l0 y130 x5_1 (wrap64 (x8_4 + 1)) ((rd_T50 l0 x5_1).f0) ((rd_T50 l0 x5_1).f1) ((rd_T50 l0 x5_1).f2) ((rd_T50 l0 x5_1).f3) ((rd_T50 l0 x5_1).f4) ((rd_T50 l0 x5_1).f5) ((rd_T50 l0 x5_1).f6)) = some (r1, r2) := by first | (rw [hy130]; with_reducible exact H) | (have H2_ := (Zsa _ _).symm.trans H; rw [hy130]; with_reducible exact H2_) | (have H2_ := (Zsa _ _).symm.trans H; with_reducible exact H2_) | with_reducible exact H | (rw [hy130]; exact H) | exact H
             have Ny130 := Zma hy130
             clear hy130
             have H' := Zma H
             clear H
             obtain ⟨hcz58_0, hcz58_1, hcz58_2, hcz58_3, hcz58_4, hcz58_5, hcz58_6, hfz58_0, hfz58_1, hfz58_2, hfz58_3, hfz58_4, hfz58_5, hfz58_6⟩ := blk7 BK103.out
             go_wp2_with (first | ((with_reducible refine gate_dst (N := 70) rfl ?_); (try (refine gate_guard (by rfl) ?_; dsimp only)); refine Kd.R_lit (Kd.int .u8) _ 5 ?hg (N := 70) ?hd (xs := ([] : List Int)) (inner := []) (ok := fun _ => True) (okp := fun _ => True) ?hr ?hp (fun _ hk => hk) trivial (Below.refl _ _) (Zra _) (by simp) ?_; (case hd => rfl); (case hg => rfl); (case hr => first | (go_simp; done) | (go_simp; rfl)); (case hp => exact (Reps.none _ _)); intro v108 w59 ho60 hb hg_ hnew_; clear hg_ hnew_; (first | rw [← Ny107.out] at ho60 | (simp only [Int.reduceToNat] at ho60; rw [← Ny107.out] at ho60)); have n0_ := Zma (Kd.S_elder' (by (with_reducible repeat (first | apply Zy | apply Zx | apply Zz)); exact HO_4.out) (Kd.R_base ho60) hb); have n1_ := Zma (Zxa ho60 (Zfa (by repeat (first | (with_reducible first | exact HB.out | apply Zi | apply Ze | apply Zla | refine Zm ?_ GE103.out) | exact HB.out)))); have n2_ := Zma (Zab (g := gb103) (o := .cells #[.int .i64 ((rd_T50 l0 x5_1).f0), .int .i64 ((rd_T50 l0 x5_1).f1), .bool ((rd_T50 l0 x5_1).f2), .bool ((rd_T50 l0 x5_1).f3), .bool ((rd_T50 l0 x5_1).f4), .bool ((rd_T50 l0 x5_1).f5), .slice A102_6 ((rd_T50 l0 x5_1).f6).length c102_6] 50 (0, 0)) (by (with_reducible repeat (first | refine Zk ?_ _ | refine Zl ?_ | refine Zj ?_ _)); exact BK103.out) hb); have n3_ := Zma (Zoa (by repeat (first | (with_reducible first | exact HB.out | apply Zi | apply Ze | apply Zla | refine Zm ?_ GE103.out) | exact HB.out)) hb); clear HO_4 BK103 HB; have HO_4 := n0_; have HO109 := n1_; have BK103 := n2_; have HB := n3_; clear n0_ n1_ n2_ n3_ hb ho60; obtain ⟨hcz61_0, hcz61_1, hcz61_2, hcz61_3, hcz61_4, hcz61_5, hcz61_6, hfz61_0, hfz61_1, hfz61_2, hfz61_3, hfz61_4, hfz61_5, hfz61_6⟩ := blk7 BK103.out; have p110 : 0 ≤ (x8_4 : Int) := Zg (by first | (with_reducible assumption) | assumption); have q110 : x8_4 < (((rd_T50 l0 x5_1).f6).length : Int) := Zg (by first | (with_reducible assumption) | assumption); obtain ⟨ad110, A110_0, c110_0, e110, hx110_0, hl110_0, hi110_0⟩ := at_L3 HR102_6.out x8_4 p110 q110; cases e110; replace hx110_0 := (HB.out.cell (Zh w _ hx110_0)).trans hx110_0; have HR110_0 := Zma hi110_0; have HC110_0 := Zma hl110_0; clear hi110_0 hl110_0; replace p110 := Zja p110; replace q110 := Zja q110) | ((with_reducible refine gate_builtin (b := .append) (xs := #[.tmp 70, .tmp 75]) rfl ?_); (try (refine gate_guard (by rfl) ?_; dsimp only)); at_builtin; refine Kd.R_append_rows (Kd.int .u8) (w0 := w) w.heap.size rfl (.tmp 70) (.tmp 75) 28 5 (.int .u8 0) 1 rfl Try.underlying28 info5 rfl (by decide) (by omega) v108 y107 (rd_L3 ((rd_T50 l0 x5_1).f6) x8_4) _ _ _ (fun _ => True) (fun _ => False) rfl rfl ?aO ?aR (fun _ _ h => h) (fun _ h => h.elim) ?aF ?aB ?aS ?aL ?_; (case aR => repeat (first | exact (Kd.C_below HR110_0.out HB.out) | (with_reducible refine Zba ?_ _) | (with_reducible refine Zaa ?_ _) | (with_reducible refine Zca ?_))); (case aB => exact (by repeat (first | (with_reducible first | exact HB.out | apply Zi | apply Ze | apply Zla | refine Zm ?_ GE103.out) | exact HB.out))); (case aF => exact (fun _ _ => trivial)); (case aO => exact (by (with_reducible repeat (first | apply Zp | apply Zo | apply Zq)); exact HO109.out)); (case aS => exact (Zfa (by repeat (first | (with_reducible first | exact HB.out | apply Zi | apply Ze | apply Zla | refine Zm ?_ GE103.out) | exact HB.out)))); (case aL => have := LMc32.out; omega); intro v112 w62 ho hb hg hat; rw [← Ny111.out] at ho; have n0_ := Zma (Kd.S_after (ok := (fun _ => True)) (by (with_reducible repeat (first | apply Zy | apply Zx | apply Zz)); exact HO_4.out) hg hat); have n1_ := Zma (blk_grown (g := gb103) (o := .cells #[.int .i64 ((rd_T50 l0 x5_1).f0), .int .i64 ((rd_T50 l0 x5_1).f1), .bool ((rd_T50 l0 x5_1).f2), .bool ((rd_T50 l0 x5_1).f3), .bool ((rd_T50 l0 x5_1).f4), .bool ((rd_T50 l0 x5_1).f5), .slice (some ad110) ((rd_T50 l0 x5_1).f6).length c102_6] 50 (0, 0)) (by (with_reducible repeat (first | refine Zk ?_ _ | refine Zl ?_ | refine Zj ?_ _)); exact BK103.out) hg (Kd.R_ne HO109.out BK103.out (by decide))); have n2_ := Zma (hb); have n3_ := Zma (ho); clear HO_4 BK103 HB HO109; have HO_4 := n0_; have BK103 := n1_; have HB := n2_; have HO113 := n3_; clear n0_ n1_ n2_ n3_ ho hb hg hat; obtain ⟨hcz63_0, hcz63_1, hcz63_2, hcz63_3, hcz63_4, hcz63_5, hcz63_6, hfz63_0, hfz63_1, hfz63_2, hfz63_3, hfz63_4, hfz63_5, hfz63_6⟩ := blk7 BK103.out; obtain ⟨Ao65, co65, eo65⟩ := Kd.R_slice HO113.out; subst eo65) | ((with_reducible refine gate_builtin (b := .append) (xs := #[.tmp 98, .tmp 100]) rfl ?_); (try (refine gate_guard (by rfl) ?_; dsimp only)); at_builtin; refine Kd.S_append (Kd.slice 5 (Kd.int .u8)) (w0 := w) w.heap.size rfl (.tmp 98) (.tmp 100) 41 28 (.slice none 0 0) 24 rfl Try.underlying41 info28 rfl (by decide) (by omega) u4 x4_4 y111 [.slice Ao65 y111.length co65] (fun _ => True) (fun k_ => some k_ = (.slice Ao65 y111.length co65 : Value).ownBlock) rfl rfl ?aP (fun k_ hk_ => ((Kd.R_mono (ok' := fun k_ => ((fun _ => True)) k_ ∧ some k_ ≠ (u4 : Value).ownBlock) (Kd.R_apart' (HO113.out) (Kd.S_typed HO_4.out) (by decide)) (fun k_ hk => ⟨trivial, hk.2⟩))).1 k_ hk_.symm) ?aF ?aO ?aB ?aS ?aL ?_; (case aP => exact Kd.M_row (Kd.R_mono (Kd.R_tight rfl (Kd.R_mono (ok' := fun k_ => ((fun _ => True)) k_ ∧ some k_ ≠ (u4 : Value).ownBlock) (Kd.R_apart' (HO113.out) (Kd.S_typed HO_4.out) (by decide)) (fun k_ hk => ⟨trivial, hk.2⟩))) (fun _ h_ => h_))); (case aB => exact (by repeat (first | (with_reducible first | exact HB.out | apply Zi | apply Ze | apply Zla | refine Zm ?_ GE103.out) | exact HB.out))); (case aF => exact (fun _ _ => trivial)); (case aO => exact (by (with_reducible repeat (first | apply Zy | apply Zx | apply Zz)); exact Kd.S_mono HO_4.out (fun k_ hk => ⟨trivial, fun e_ => hk.2 e_⟩))); (case aS => exact (Zfa (by repeat (first | (with_reducible first | exact HB.out | apply Zi | apply Ze | apply Zla | refine Zm ?_ GE103.out) | exact HB.out)))); (case aL => have := LMc57.out; omega); intro v131 w64 ho hb hg hat; rw [← Ny130.out] at ho; have n0_ := Zma (blk_grown (g := gb103) (o := .cells #[.int .i64 ((rd_T50 l0 x5_1).f0), .int .i64 ((rd_T50 l0 x5_1).f1), .bool ((rd_T50 l0 x5_1).f2), .bool ((rd_T50 l0 x5_1).f3), .bool ((rd_T50 l0 x5_1).f4), .bool ((rd_T50 l0 x5_1).f5), .slice (some ad110) ((rd_T50 l0 x5_1).f6).length c102_6] 50 (0, 0)) (by (with_reducible repeat (first | refine Zk ?_ _ | refine Zl ?_ | refine Zj ?_ _)); exact BK103.out) hg (Kd.S_ne HO_4.out BK103.out (by decide))); have n1_ := Zma (hb); have n2_ := Zma (ho); clear BK103 HB HO_4 HO113; have BK103 := n0_; have HB := n1_; have HO132 := n2_; clear n0_ n1_ n2_ ho hb hg hat))
             go_roundg k4
             case measure => have := HK1.out; have := HJ5.out; have := HJ13.out; have := HK4.out; omega
             case rel => exact ⟨(y130), (wrap64 (x8_4 + 1)), (by first | rfl | (simp; done) | (simp [*]; done)), H', ⟨by have := HK1.out; have := HJ5.out; have := HJ13.out; have := HK4.out; omega⟩, ⟨by (with_reducible repeat (first | apply Zy | apply Zx | apply Zz)); exact HO132.out⟩, ⟨by (with_reducible repeat (first | refine Zk ?_ _ | refine Zl ?_ | refine Zj ?_ _)); exact BK103.out⟩, ⟨by repeat (first | (with_reducible first | exact HB.out | apply Zi | apply Ze | apply Zla | refine Zm ?_ GE103.out) | exact HB.out)⟩⟩
            rw [if_neg c33] at H
            have c33b0 : (x8_4 == 0) = false := beq_eq_false_iff_ne.mpr c33
            have c33b1 : (x8_4 != 0) = true := bne_iff_ne.mpr c33
            by_cases c66 : x4_4.length < 5864062014805
            rotate_left
            ·rw [if_neg c66] at H
             exact absurd H (by simp)
            rw [if_pos c66] at H
            have LMc66 := Zma c66
            clear c66
            obtain ⟨y133, hy133⟩ : ∃ y_ : List (List Int), y_ = (x4_4 ++ [y111]) := ⟨_, rfl⟩
            replace H : (psalteryref18_Join_raw.l1 k4 l0 y133 x5_1 (wrap64 (x8_4 + 1)) ((rd_T50 l0 x5_1).f0) ((rd_T50 l0 x5_1).f1) ((rd_T50 l0 x5_1).f2) ((rd_T50 l0 x5_1).f3) ((rd_T50 l0 x5_1).f4) ((rd_T50 l0 x5_1).f5) ((rd_T50 l0 x5_1).f6)) = some (r1, r2) := by first | (rw [hy133]; with_reducible exact H) | (have H2_ := (Zsa _ _).symm.trans H; rw [hy133]; with_reducible exact H2_) | (have H2_ := (Zsa _ _).symm.trans H; with_reducible exact H2_) | with_reducible exact H | (rw [hy133]; exact H) | exact H
            have Ny133 := Zma hy133
            clear hy133
            have H' := Zma H
            clear H
            obtain ⟨hcz67_0, hcz67_1, hcz67_2, hcz67_3, hcz67_4, hcz67_5, hcz67_6, hfz67_0, hfz67_1, hfz67_2, hfz67_3, hfz67_4, hfz67_5, hfz67_6⟩ := blk7 BK103.out
            go_wp2_with (first | ((with_reducible refine gate_dst (N := 70) rfl ?_); (try (refine gate_guard (by rfl) ?_; dsimp only)); refine Kd.R_lit (Kd.int .u8) _ 5 ?hg (N := 70) ?hd (xs := ([] : List Int)) (inner := []) (ok := fun _ => True) (okp := fun _ => True) ?hr ?hp (fun _ hk => hk) trivial (Below.refl _ _) (Zra _) (by simp) ?_; (case hd => rfl); (case hg => rfl); (case hr => first | (go_simp; done) | (go_simp; rfl)); (case hp => exact (Reps.none _ _)); intro v108 w68 ho69 hb hg_ hnew_; clear hg_ hnew_; (first | rw [← Ny107.out] at ho69 | (simp only [Int.reduceToNat] at ho69; rw [← Ny107.out] at ho69)); have n0_ := Zma (Kd.S_elder' (by (with_reducible repeat (first | apply Zy | apply Zx | apply Zz)); exact HO_4.out) (Kd.R_base ho69) hb); have n1_ := Zma (Zxa ho69 (Zfa (by repeat (first | (with_reducible first | exact HB.out | apply Zi | apply Ze | apply Zla | refine Zm ?_ GE103.out) | exact HB.out)))); have n2_ := Zma (Zab (g := gb103) (o := .cells #[.int .i64 ((rd_T50 l0 x5_1).f0), .int .i64 ((rd_T50 l0 x5_1).f1), .bool ((rd_T50 l0 x5_1).f2), .bool ((rd_T50 l0 x5_1).f3), .bool ((rd_T50 l0 x5_1).f4), .bool ((rd_T50 l0 x5_1).f5), .slice A102_6 ((rd_T50 l0 x5_1).f6).length c102_6] 50 (0, 0)) (by (with_reducible repeat (first | refine Zk ?_ _ | refine Zl ?_ | refine Zj ?_ _)); exact BK103.out) hb); have n3_ := Zma (Zoa (by repeat (first | (with_reducible first | exact HB.out | apply Zi | apply Ze | apply Zla | refine Zm ?_ GE103.out) | exact HB.out)) hb); clear HO_4 BK103 HB; have HO_4 := n0_; have HO109 := n1_; have BK103 := n2_; have HB := n3_; clear n0_ n1_ n2_ n3_ hb ho69; obtain ⟨hcz70_0, hcz70_1, hcz70_2, hcz70_3, hcz70_4, hcz70_5, hcz70_6, hfz70_0, hfz70_1, hfz70_2, hfz70_3, hfz70_4, hfz70_5, hfz70_6⟩ := blk7 BK103.out; have p110 : 0 ≤ (x8_4 : Int) := Zg (by first | (with_reducible assumption) | assumption); have q110 : x8_4 < (((rd_T50 l0 x5_1).f6).length : Int) := Zg (by first | (with_reducible assumption) | assumption); obtain ⟨ad110, A110_0, c110_0, e110, hx110_0, hl110_0, hi110_0⟩ := at_L3 HR102_6.out x8_4 p110 q110; cases e110; replace hx110_0 := (HB.out.cell (Zh w _ hx110_0)).trans hx110_0; have HR110_0 := Zma hi110_0; have HC110_0 := Zma hl110_0; clear hi110_0 hl110_0; replace p110 := Zja p110; replace q110 := Zja q110) | ((with_reducible refine gate_builtin (b := .append) (xs := #[.tmp 70, .tmp 75]) rfl ?_); (try (refine gate_guard (by rfl) ?_; dsimp only)); at_builtin; refine Kd.R_append_rows (Kd.int .u8) (w0 := w) w.heap.size rfl (.tmp 70) (.tmp 75) 28 5 (.int .u8 0) 1 rfl Try.underlying28 info5 rfl (by decide) (by omega) v108 y107 (rd_L3 ((rd_T50 l0 x5_1).f6) x8_4) _ _ _ (fun _ => True) (fun _ => False) rfl rfl ?aO ?aR (fun _ _ h => h) (fun _ h => h.elim) ?aF ?aB ?aS ?aL ?_; (case aR => repeat (first | exact (Kd.C_below HR110_0.out HB.out) | (with_reducible refine Zba ?_ _) | (with_reducible refine Zaa ?_ _) | (with_reducible refine Zca ?_))); (case aB => exact (by repeat (first | (with_reducible first | exact HB.out | apply Zi | apply Ze | apply Zla | refine Zm ?_ GE103.out) | exact HB.out))); (case aF => exact (fun _ _ => trivial)); (case aO => exact (by (with_reducible repeat (first | apply Zp | apply Zo | apply Zq)); exact HO109.out)); (case aS => exact (Zfa (by repeat (first | (with_reducible first | exact HB.out | apply Zi | apply Ze | apply Zla | refine Zm ?_ GE103.out) | exact HB.out)))); (case aL => have := LMc32.out; omega); intro v112 w71 ho hb hg hat; rw [← Ny111.out] at ho; have n0_ := Zma (Kd.S_after (ok := (fun _ => True)) (by (with_reducible repeat (first | apply Zy | apply Zx | apply Zz)); exact HO_4.out) hg hat); have n1_ := Zma (blk_grown (g := gb103) (o := .cells #[.int .i64 ((rd_T50 l0 x5_1).f0), .int .i64 ((rd_T50 l0 x5_1).f1), .bool ((rd_T50 l0 x5_1).f2), .bool ((rd_T50 l0 x5_1).f3), .bool ((rd_T50 l0 x5_1).f4), .bool ((rd_T50 l0 x5_1).f5), .slice (some ad110) ((rd_T50 l0 x5_1).f6).length c102_6] 50 (0, 0)) (by (with_reducible repeat (first | refine Zk ?_ _ | refine Zl ?_ | refine Zj ?_ _)); exact BK103.out) hg (Kd.R_ne HO109.out BK103.out (by decide))); have n2_ := Zma (hb); have n3_ := Zma (ho); clear HO_4 BK103 HB HO109; have HO_4 := n0_; have BK103 := n1_; have HB := n2_; have HO113 := n3_; clear n0_ n1_ n2_ n3_ ho hb hg hat; obtain ⟨Ao73, co73, eo73⟩ := Kd.R_slice HO113.out; subst eo73) | ((with_reducible refine gate_builtin (b := .append) (xs := #[.tmp 98, .tmp 100]) rfl ?_); (try (refine gate_guard (by rfl) ?_; dsimp only)); at_builtin; refine Kd.S_append (Kd.slice 5 (Kd.int .u8)) (w0 := w) w.heap.size rfl (.tmp 98) (.tmp 100) 41 28 (.slice none 0 0) 24 rfl Try.underlying41 info28 rfl (by decide) (by omega) u4 x4_4 y111 [.slice Ao73 y111.length co73] (fun _ => True) (fun k_ => some k_ = (.slice Ao73 y111.length co73 : Value).ownBlock) rfl rfl ?aP (fun k_ hk_ => ((Kd.R_mono (ok' := fun k_ => ((fun _ => True)) k_ ∧ some k_ ≠ (u4 : Value).ownBlock) (Kd.R_apart' (HO113.out) (Kd.S_typed HO_4.out) (by decide)) (fun k_ hk => ⟨trivial, hk.2⟩))).1 k_ hk_.symm) ?aF ?aO ?aB ?aS ?aL ?_; (case aP => exact Kd.M_row (Kd.R_mono (Kd.R_tight rfl (Kd.R_mono (ok' := fun k_ => ((fun _ => True)) k_ ∧ some k_ ≠ (u4 : Value).ownBlock) (Kd.R_apart' (HO113.out) (Kd.S_typed HO_4.out) (by decide)) (fun k_ hk => ⟨trivial, hk.2⟩))) (fun _ h_ => h_))); (case aB => exact (by repeat (first | (with_reducible first | exact HB.out | apply Zi | apply Ze | apply Zla | refine Zm ?_ GE103.out) | exact HB.out))); (case aF => exact (fun _ _ => trivial)); (case aO => exact (by (with_reducible repeat (first | apply Zy | apply Zx | apply Zz)); exact Kd.S_mono HO_4.out (fun k_ hk => ⟨trivial, fun e_ => hk.2 e_⟩))); (case aS => exact (Zfa (by repeat (first | (with_reducible first | exact HB.out | apply Zi | apply Ze | apply Zla | refine Zm ?_ GE103.out) | exact HB.out)))); (case aL => have := LMc66.out; omega); intro v134 w72 ho hb hg hat; rw [← Ny133.out] at ho; have n0_ := Zma (blk_grown (g := gb103) (o := .cells #[.int .i64 ((rd_T50 l0 x5_1).f0), .int .i64 ((rd_T50 l0 x5_1).f1), .bool ((rd_T50 l0 x5_1).f2), .bool ((rd_T50 l0 x5_1).f3), .bool ((rd_T50 l0 x5_1).f4), .bool ((rd_T50 l0 x5_1).f5), .slice (some ad110) ((rd_T50 l0 x5_1).f6).length c102_6] 50 (0, 0)) (by (with_reducible repeat (first | refine Zk ?_ _ | refine Zl ?_ | refine Zj ?_ _)); exact BK103.out) hg (Kd.S_ne HO_4.out BK103.out (by decide))); have n1_ := Zma (hb); have n2_ := Zma (ho); clear BK103 HB HO_4 HO113; have BK103 := n0_; have HB := n1_; have HO135 := n2_; clear n0_ n1_ n2_ ho hb hg hat))
            go_roundg k4
            case measure => have := HK1.out; have := HJ5.out; have := HJ13.out; have := HK4.out; omega
            case rel => exact ⟨(y133), (wrap64 (x8_4 + 1)), (by first | rfl | (simp; done) | (simp [*]; done)), H', ⟨by have := HK1.out; have := HJ5.out; have := HJ13.out; have := HK4.out; omega⟩, ⟨by (with_reducible repeat (first | apply Zy | apply Zx | apply Zz)); exact HO135.out⟩, ⟨by (with_reducible repeat (first | refine Zk ?_ _ | refine Zl ?_ | refine Zj ?_ _)); exact BK103.out⟩, ⟨by repeat (first | (with_reducible first | exact HB.out | apply Zi | apply Ze | apply Zla | refine Zm ?_ GE103.out) | exact HB.out)⟩⟩
           rw [if_neg c30] at H
           have c30b0 : decide (x8_4 < (((rd_T50 l0 x5_1).f6).length : Int)) = false := Zna c30
           clear c30
           have H' := Zma H
           clear H
           obtain ⟨hcz74_0, hcz74_1, hcz74_2, hcz74_3, hcz74_4, hcz74_5, hcz74_6, hfz74_0, hfz74_1, hfz74_2, hfz74_3, hfz74_4, hfz74_5, hfz74_6⟩ := blk7 BK103.out
           go_wp2
           repeat (go_quiet (fail); try go_wp2)
           go_roundg k4
           case measure => have := HK1.out; have := HJ5.out; have := HJ13.out; have := HK4.out; omega
           case rel => exact ⟨(x4_4), (wrap64 (x5_1 + 1)), (by first | rfl | (simp; done) | (simp [*]; done)), H', ⟨by have := HK1.out; have := HJ5.out; have := HJ13.out; have := HK4.out; omega⟩, ⟨by (with_reducible repeat (first | apply Zy | apply Zx | apply Zz)); exact HO_4.out⟩, ⟨by repeat (first | (with_reducible first | exact HB.out | apply Zi | apply Ze | apply Zla | refine Zm ?_ GE103.out) | exact HB.out)⟩⟩
    replace c5 := Bool.eq_false_iff.mpr c5
    subst c5
    have H1 : (some (([] : List (List Int)), 1)) = some (r1, r2) := by rw [if_neg (show ¬ (false = true) by decide)] at H; exact H
    clear H
    have H := H1
    clear H1
    simp only [Zib, Zhb] at H
    obtain ⟨rfl, rfl⟩ := H
    have p102 : 0 ≤ (x5_1 : Int) := Zg (by first | (with_reducible assumption) | assumption)
    have q102 : x5_1 < (l0.length : Int) := Zg (by first | (with_reducible assumption) | assumption)
    obtain ⟨ad102, A102_6, c102_6, e102, hx102_0, hx102_1, hx102_2, hx102_3, hx102_4, hx102_5, hx102_6, hl102_6, hi102_6⟩ := at_T50 HR0.out x5_1 p102 q102
    cases e102
    replace hx102_0 := (HB.out.cell (Zh w _ hx102_0)).trans hx102_0
    replace hx102_1 := (HB.out.cell (Zh w _ hx102_1)).trans hx102_1
    replace hx102_2 := (HB.out.cell (Zh w _ hx102_2)).trans hx102_2
    replace hx102_3 := (HB.out.cell (Zh w _ hx102_3)).trans hx102_3
    replace hx102_4 := (HB.out.cell (Zh w _ hx102_4)).trans hx102_4
    replace hx102_5 := (HB.out.cell (Zh w _ hx102_5)).trans hx102_5
    replace hx102_6 := (HB.out.cell (Zh w _ hx102_6)).trans hx102_6
    have HR102_6 := Zma hi102_6
    have HC102_6 := Zma hl102_6
    clear hi102_6 hl102_6
    replace p102 := Zja p102
    replace q102 := Zja q102
    go_wp2_with (first | ((with_reducible refine gate_dst (N := 6) rfl ?_); (try (refine gate_guard (by rfl) ?_; dsimp only)); refine box_event ?hg (N := 6) ?hd (cs := #[.int .i64 0, .int .i64 0, .bool false, .bool false, .bool false, .bool false, .slice none 0 0]) (t := 50) ?hr ?_; (case hd => rfl); (case hg => rfl); (case hr => first | (go_simp; done) | (go_simp; rfl)); intro gb103 hg w75 hbox hb; have n0_ := Zma (Kd.S_below (by (with_reducible repeat (first | apply Zy | apply Zx | apply Zz)); exact HO_4.out) hb); have n1_ := Zma (Zoa (by repeat (first | (with_reducible first | exact HB.out | apply Zi | apply Ze | apply Zla) | exact HB.out)) hb); have n2_ := Zma (hbox); have n3_ := Zma ((by rw [hg]; exact (Zfa (by repeat (first | (with_reducible first | exact HB.out | apply Zi | apply Ze | apply Zla) | exact HB.out))) : w.heap.size ≤ gb103)); have n4_ := Zma ((by rw [hg]; exact (Zfa (by repeat (first | (with_reducible first | exact HB.out | apply Zi | apply Ze | apply Zla) | exact HB.out))) : w.heap.size ≤ gb103)); clear HO_4 HB; have HO_4 := n0_; have HB := n1_; have BK103 := n2_; have GW103 := n3_; have GE103 := n4_; clear n0_ n1_ n2_ n3_ n4_ hb hbox hg; obtain ⟨hcz76_0, hcz76_1, hcz76_2, hcz76_3, hcz76_4, hcz76_5, hcz76_6, hfz76_0, hfz76_1, hfz76_2, hfz76_3, hfz76_4, hfz76_5, hfz76_6⟩ := blk7 BK103.out) | (go_at_call 55; (with_reducible refine (psalteryref18_Right.calls ((rd_T50 l0 x5_1).f0) ((rd_T50 l0 x5_1).f1) ((rd_T50 l0 x5_1).f2) ((rd_T50 l0 x5_1).f3) ((rd_T50 l0 x5_1).f4) ((rd_T50 l0 x5_1).f5) _ _ ((rd_T50 l0 x5_1).f6) false _ ?side1 ?side2 A4.out).mono ?_); (case side1 => exact Kd.C_below HR102_6.out (by repeat (first | (with_reducible first | exact HB.out | apply Zi | apply Ze | apply Zla | refine Zm ?_ GE103.out) | exact HB.out))); (case side2 => exact HC102_6.out); rintro e w77 ⟨rfl, hb⟩; have n0_ := Zma (Kd.S_below (by (with_reducible repeat (first | apply Zy | apply Zx | apply Zz)); exact (Kd.S_mono (Kd.S_far (p := ⟨gb103, 6, none⟩) (Kd.S_far (p := ⟨gb103, 5, none⟩) (Kd.S_far (p := ⟨gb103, 4, none⟩) (Kd.S_far (p := ⟨gb103, 3, none⟩) (Kd.S_far (p := ⟨gb103, 2, none⟩) (Kd.S_far (p := ⟨gb103, 1, none⟩) (Kd.S_far (p := ⟨gb103, 0, none⟩) (Kd.S_types HO_4.out BK103.out (by decide)) (fun _ hk => hk.2) (.int .i64 ((rd_T50 l0 x5_1).f0))) (fun _ hk => hk.2) (.int .i64 ((rd_T50 l0 x5_1).f1))) (fun _ hk => hk.2) (.bool ((rd_T50 l0 x5_1).f2))) (fun _ hk => hk.2) (.bool ((rd_T50 l0 x5_1).f3))) (fun _ hk => hk.2) (.bool ((rd_T50 l0 x5_1).f4))) (fun _ hk => hk.2) (.bool ((rd_T50 l0 x5_1).f5))) (fun _ hk => hk.2) (.slice A102_6 ((rd_T50 l0 x5_1).f6).length c102_6)) (fun _ h_ => h_.1))) hb); have n1_ := Zma (Zab (g := gb103) (o := .cells #[.int .i64 ((rd_T50 l0 x5_1).f0), .int .i64 ((rd_T50 l0 x5_1).f1), .bool ((rd_T50 l0 x5_1).f2), .bool ((rd_T50 l0 x5_1).f3), .bool ((rd_T50 l0 x5_1).f4), .bool ((rd_T50 l0 x5_1).f5), .slice A102_6 ((rd_T50 l0 x5_1).f6).length c102_6] 50 (0, 0)) (by (with_reducible repeat (first | refine Zk ?_ _ | refine Zl ?_ | refine Zj ?_ _)); refine Zva (cs := #[.int .i64 ((rd_T50 l0 x5_1).f0), .int .i64 ((rd_T50 l0 x5_1).f1), .bool ((rd_T50 l0 x5_1).f2), .bool ((rd_T50 l0 x5_1).f3), .bool ((rd_T50 l0 x5_1).f4), .bool ((rd_T50 l0 x5_1).f5), .slice none 0 0]) ?_ 6 _ rfl; (with_reducible repeat (first | refine Zk ?_ _ | refine Zl ?_ | refine Zj ?_ _)); refine Zva (cs := #[.int .i64 ((rd_T50 l0 x5_1).f0), .int .i64 ((rd_T50 l0 x5_1).f1), .bool ((rd_T50 l0 x5_1).f2), .bool ((rd_T50 l0 x5_1).f3), .bool ((rd_T50 l0 x5_1).f4), .bool false, .slice none 0 0]) ?_ 5 _ rfl; (with_reducible repeat (first | refine Zk ?_ _ | refine Zl ?_ | refine Zj ?_ _)); refine Zva (cs := #[.int .i64 ((rd_T50 l0 x5_1).f0), .int .i64 ((rd_T50 l0 x5_1).f1), .bool ((rd_T50 l0 x5_1).f2), .bool ((rd_T50 l0 x5_1).f3), .bool false, .bool false, .slice none 0 0]) ?_ 4 _ rfl; (with_reducible repeat (first | refine Zk ?_ _ | refine Zl ?_ | refine Zj ?_ _)); refine Zva (cs := #[.int .i64 ((rd_T50 l0 x5_1).f0), .int .i64 ((rd_T50 l0 x5_1).f1), .bool ((rd_T50 l0 x5_1).f2), .bool false, .bool false, .bool false, .slice none 0 0]) ?_ 3 _ rfl; (with_reducible repeat (first | refine Zk ?_ _ | refine Zl ?_ | refine Zj ?_ _)); refine Zva (cs := #[.int .i64 ((rd_T50 l0 x5_1).f0), .int .i64 ((rd_T50 l0 x5_1).f1), .bool false, .bool false, .bool false, .bool false, .slice none 0 0]) ?_ 2 _ rfl; (with_reducible repeat (first | refine Zk ?_ _ | refine Zl ?_ | refine Zj ?_ _)); refine Zva (cs := #[.int .i64 ((rd_T50 l0 x5_1).f0), .int .i64 0, .bool false, .bool false, .bool false, .bool false, .slice none 0 0]) ?_ 1 _ rfl; (with_reducible repeat (first | refine Zk ?_ _ | refine Zl ?_ | refine Zj ?_ _)); refine Zva (cs := #[.int .i64 0, .int .i64 0, .bool false, .bool false, .bool false, .bool false, .slice none 0 0]) ?_ 0 _ rfl; (with_reducible repeat (first | refine Zk ?_ _ | refine Zl ?_ | refine Zj ?_ _)); exact BK103.out) hb); have n2_ := Zma (Zoa (by repeat (first | (with_reducible first | exact HB.out | apply Zi | apply Ze | apply Zla | refine Zm ?_ GE103.out) | exact HB.out)) hb); clear HO_4 BK103 HB; have HO_4 := n0_; have BK103 := n1_; have HB := n2_; clear n0_ n1_ n2_; (try clear hb); (try clear hb2); (try clear hk); (try clear hi)))
    go_ret2
    exact ⟨_, by first | rfl | (simp [errW_none, errW_some] <;> rfl) | (simp [*, errW_none, errW_some] <;> rfl), by first | exact Kd.S_nil _ _ _ _ _ | exact Kd.N_nil _ _ _ _ _ | exact Kd.V_nil _ _ _ _ _ | exact Kd.Q_nil _ _ _ _ _ | exact Kd.R_nil _ _ _ _ _, by repeat (first | (with_reducible first | exact HB.out | apply Zi | apply Ze | apply Zla | refine Zm ?_ GE103.out) | exact HB.out)⟩
   rw [if_neg c2] at H
   have c2b0 : decide (x5_1 < (l0.length : Int)) = false := Zna c2
   clear c2
   by_cases c78 : (l0.length : Int) > 0
   ·rw [if_pos c78] at H
    have c78b0 : decide (0 < (l0.length : Int)) = true := Zn c78
    have c78b1 : decide (0 < l0.length) = true := Zn (by omega)
    clear c78
    obtain ⟨ji79, hji79⟩ : ∃ j_ : Int, (wrap64 ((l0.length : Int) - 1)) = j_ := ⟨_, rfl⟩
    replace H : (if 0 ≤ (ji79) then (if (ji79) < (l0.length : Int) then (if (rd_T50 l0 (ji79)).f5 = true then (some (([] : List (List Int)), 7)) else (some (x4_1, 0))) else (none)) else (none)) = some (r1, r2) := by first | (rw [hji79] at H; exact H) | (simp only [hji79] at H ⊢; exact H)
    have hji79w : (IntKind.i64.wrap ((l0.length : Int) - 1)) = ji79 := (i64_w _).trans hji79
    by_cases c80 : 0 ≤ (ji79)
    rotate_left
    ·rw [if_neg c80] at H
     exact absurd H (by simp)
    rw [if_pos c80] at H
    have c80b0 : decide (0 ≤ (ji79)) = true := Zn c80
    clear c80
    by_cases c81 : (ji79) < (l0.length : Int)
    rotate_left
    ·rw [if_neg c81] at H
     exact absurd H (by simp)
    rw [if_pos c81] at H
    have c81b0 : decide ((ji79) < (l0.length : Int)) = true := Zn c81
    clear c81
    obtain ⟨bq82, hbq82⟩ : ∃ b_ : Bool, b_ = ((rd_T50 l0 (ji79)).f5) := ⟨_, rfl⟩
    replace H : (if bq82 = true then (some (([] : List (List Int)), 7)) else (some (x4_1, 0))) = some (r1, r2) := by rw [← hbq82] at H; exact H
    have Nbq82 := Zma hbq82
    clear hbq82
    by_cases c83 : bq82 = true
    ·subst c83
     have H1 : (some (([] : List (List Int)), 7)) = some (r1, r2) := by rw [if_pos rfl] at H; exact H
     clear H
     have H := H1
     clear H1
     simp only [Zib, Zhb] at H
     obtain ⟨rfl, rfl⟩ := H
     have p101 : 0 ≤ ((ji79) : Int) := Zg (by first | (with_reducible assumption) | assumption)
     have q101 : (ji79) < (l0.length : Int) := Zg (by first | (with_reducible assumption) | assumption)
     obtain ⟨ad101, A101_6, c101_6, e101, hx101_0, hx101_1, hx101_2, hx101_3, hx101_4, hx101_5, hx101_6, hl101_6, hi101_6⟩ := at_T50 HR0.out (ji79) p101 q101
     (try rw [← Nbq82.out] at hx101_2)
     (try rw [← Nbq82.out] at hx101_3)
     (try rw [← Nbq82.out] at hx101_4)
     (try rw [← Nbq82.out] at hx101_5)
     cases e101
     replace hx101_0 := (HB.out.cell (Zh w _ hx101_0)).trans hx101_0
     replace hx101_1 := (HB.out.cell (Zh w _ hx101_1)).trans hx101_1
     replace hx101_2 := (HB.out.cell (Zh w _ hx101_2)).trans hx101_2
     replace hx101_3 := (HB.out.cell (Zh w _ hx101_3)).trans hx101_3
     replace hx101_4 := (HB.out.cell (Zh w _ hx101_4)).trans hx101_4
     replace hx101_5 := (HB.out.cell (Zh w _ hx101_5)).trans hx101_5
     replace hx101_6 := (HB.out.cell (Zh w _ hx101_6)).trans hx101_6
     have HR101_6 := Zma hi101_6
     have HC101_6 := Zma hl101_6
     clear hi101_6 hl101_6
     replace p101 := Zja p101
     replace q101 := Zja q101
     go_wp2
     repeat (go_quiet (fail); try go_wp2)
     go_ret2
     exact ⟨_, by first | rfl | (simp [errW_none, errW_some] <;> rfl) | (simp only [← hji79]; first | rfl | (simp [errW_none, errW_some] <;> rfl)) | (simp [*, errW_none, errW_some] <;> rfl), by first | exact Kd.S_nil _ _ _ _ _ | exact Kd.N_nil _ _ _ _ _ | exact Kd.V_nil _ _ _ _ _ | exact Kd.Q_nil _ _ _ _ _ | exact Kd.R_nil _ _ _ _ _, by repeat (first | (with_reducible first | exact HB.out | apply Zi | apply Ze | apply Zla) | exact HB.out)⟩
    replace c83 := Bool.eq_false_iff.mpr c83
    subst c83
    have H1 : (some (x4_1, 0)) = some (r1, r2) := by rw [if_neg (show ¬ (false = true) by decide)] at H; exact H
    clear H
    have H := H1
    clear H1
    simp only [Zib, Zhb] at H
    obtain ⟨rfl, rfl⟩ := H
    have p101 : 0 ≤ ((ji79) : Int) := Zg (by first | (with_reducible assumption) | assumption)
    have q101 : (ji79) < (l0.length : Int) := Zg (by first | (with_reducible assumption) | assumption)
    obtain ⟨ad101, A101_6, c101_6, e101, hx101_0, hx101_1, hx101_2, hx101_3, hx101_4, hx101_5, hx101_6, hl101_6, hi101_6⟩ := at_T50 HR0.out (ji79) p101 q101
    (try rw [← Nbq82.out] at hx101_2)
    (try rw [← Nbq82.out] at hx101_3)
    (try rw [← Nbq82.out] at hx101_4)
    (try rw [← Nbq82.out] at hx101_5)
    cases e101
    replace hx101_0 := (HB.out.cell (Zh w _ hx101_0)).trans hx101_0
    replace hx101_1 := (HB.out.cell (Zh w _ hx101_1)).trans hx101_1
    replace hx101_2 := (HB.out.cell (Zh w _ hx101_2)).trans hx101_2
    replace hx101_3 := (HB.out.cell (Zh w _ hx101_3)).trans hx101_3
    replace hx101_4 := (HB.out.cell (Zh w _ hx101_4)).trans hx101_4
    replace hx101_5 := (HB.out.cell (Zh w _ hx101_5)).trans hx101_5
    replace hx101_6 := (HB.out.cell (Zh w _ hx101_6)).trans hx101_6
    have HR101_6 := Zma hi101_6
    have HC101_6 := Zma hl101_6
    clear hi101_6 hl101_6
    replace p101 := Zja p101
    replace q101 := Zja q101
    go_wp2
    repeat (go_quiet (fail); try go_wp2)
    go_ret2
    exact ⟨_, by first | rfl | (simp [errW_none, errW_some] <;> rfl) | (simp only [← hji79]; first | rfl | (simp [errW_none, errW_some] <;> rfl)) | (simp [*, errW_none, errW_some] <;> rfl), by (with_reducible repeat (first | apply Zy | apply Zx | apply Zz)); exact HO_4.out, by repeat (first | (with_reducible first | exact HB.out | apply Zi | apply Ze | apply Zla) | exact HB.out)⟩
   rw [if_neg c78] at H
   have c78b0 : decide (0 < (l0.length : Int)) = false := Zna c78
   have c78b1 : decide (0 < l0.length) = false := Zna (by omega)
   clear c78
   simp only [Zib, Zhb] at H
   obtain ⟨rfl, rfl⟩ := H
   go_wp2
   repeat (go_quiet (fail); try go_wp2)
   go_ret2
   exact ⟨_, by first | rfl | (simp [errW_none, errW_some] <;> rfl) | (simp [*, errW_none, errW_some] <;> rfl), by (with_reducible repeat (first | apply Zy | apply Zx | apply Zz)); exact HO_4.out, by repeat (first | (with_reducible first | exact HB.out | apply Zi | apply Ze | apply Zla) | exact HB.out)⟩

def to43 (p : S50) : S43 := ⟨p.f0, p.f1, p.f2, p.f3, p.f4, p.f5, p.f6⟩
def psalteryref18_Join.f (l : List S50) : Option (List (List Int) × Int) := if l.length ≤ 100 ∧ ∀ p ∈ l, smallP p.f6 then some (joinGo (l.map to43) none false []) else none
theorem drop_T50 (l : List S50) (j : Nat) (h : j < l.length) : l.drop j = rd_T50 l (j : Int) :: l.drop (j + 1) := by
  rw [List.drop_eq_getElem_cons h]
  unfold rd_T50
  rw [Int.toNat_natCast, List.getD_eq_getElem?_getD, List.getElem?_eq_getElem h]
  rfl
theorem rd_T50_mem (l : List S50) (j : Nat) (h : j < l.length) : rd_T50 l (j : Int) ∈ l := by
  unfold rd_T50
  rw [Int.toNat_natCast, List.getD_eq_getElem?_getD, List.getElem?_eq_getElem h]
  exact List.getElem_mem h
theorem set_last (out : List (List Int)) (v : List Int) (h : out ≠ []) : out.set (out.length - 1) v = out.take (out.length - 1) ++ [v] := by
  obtain ⟨i, x, rfl⟩ : ∃ i x, out = i ++ [x] := ⟨_, _, (List.dropLast_concat_getLast h).symm⟩
  have e1 : (i ++ [x]).length - 1 = i.length := by rw [List.length_append, List.length_singleton]; omega
  rw [e1, List.set_append_right _ _ (Zra _), List.take_left]
  simp
theorem psalteryref18_Join_l1 (l0 : List S50) (P : List (List Int)) (i : Int) (s g : Int) (fi la co mo : Bool) (out : List (List Int)) (R : List (List Int) × Int) (hs : smallP P) (ho : out.length ≤ 1000000) (hf : out.flatten.length ≤ 100000000000) (hc : co = true → out ≠ [])
    (H : Ev (fun k => psalteryref18_Join_raw.l0 k l0 (addParts out co P) (wrap64 (i + 1))) R) :
    Ev (fun k => psalteryref18_Join_raw.l1 k l0 out i 0 s g fi la co mo P) R := by
  have hn := hs.1
  have tail : ∀ (d m : Nat) (z : List (List Int)), 1 ≤ m → m ≤ P.length → P.length - m = d → z.length ≤ 2000000 + m → z ++ P.drop m = addParts out co P → Ev (fun k => psalteryref18_Join_raw.l1 k l0 z i (m : Int) s g fi la co mo P) R := by
    intro d
    induction d with
    | zero =>
      intro m z h1 hm hd hz he
      obtain rfl : m = P.length := by omega
      rw [List.drop_length, List.append_nil] at he
      subst he
      refine Ev.step (fun k => ?_) H
      simp only [psalteryref18_Join_raw.l1]
      rw [if_neg (Int.lt_irrefl _)]
    | succ d ih =>
      intro m z h1 hm hd hz he
      have hm1 : m < P.length := by omega
      have g1 : (m : Int) < (P.length : Int) := by omega
      have g2 : (0 : Int) ≤ (m : Int) := by omega
      have g3 : ¬ (m : Int) = 0 := by omega
      have hb := hs.2 _ (rd_L3_mem P m hm1)
      have g4 : ([] : List Int).length + (rd_L3 P (m : Int)).length < 140737488355328 := by rw [List.length_nil]; omega
      have g5 : z.length < 5864062014805 := by omega
      have e2A : Aside0 (wrap64 ((m : Int) + 1) = ((m + 1 : Nat) : Int)) := ⟨wsucc m (by omega)⟩
      rw [drop_cons P m hm1] at he
      have he' : (z ++ [rd_L3 P (m : Int)]) ++ P.drop (m + 1) = addParts out co P := by rw [List.append_assoc]; exact he
      refine Ev.step (fun k => ?_) (ih (m + 1) _ (by omega) (by omega) (by omega) (by rw [List.length_append, List.length_singleton]; omega) he')
      simp only [psalteryref18_Join_raw.l1]
      rw [if_pos g1, Zsa, if_pos g2, if_pos g4, Zsa, if_neg g3, if_pos g5, List.nil_append, e2A.out]
  cases P with
  | nil =>
    refine Ev.step (fun k => ?_) H
    simp only [psalteryref18_Join_raw.l1]
    rw [if_neg (by decide)]
    rfl
  | cons b r =>
    have hb := hs.2 b (by simp)
    have g1 : (0 : Int) < ((b :: r).length : Int) := by simp only [List.length_cons]; omega
    have rb : rd_L3 (b :: r) 0 = b := rfl
    have e1A : Aside0 (wrap64 (0 + 1) = ((1 : Nat) : Int)) := ⟨by rw [wrap64_of (by omega) (by omega)]; rfl⟩
    have g4 : ([] : List Int).length + b.length < 140737488355328 := by rw [List.length_nil]; omega
    cases co with
    | false =>
      have g5 : out.length < 5864062014805 := by omega
      refine Ev.step (fun k => ?_) (tail (r.length) 1 (out ++ [b]) (by omega) (by simp) (by simp) (by rw [List.length_append, List.length_singleton]; omega) (by simp [addParts]))
      simp only [psalteryref18_Join_raw.l1, rb]
      rw [if_pos g1, Zsa, if_pos (by decide), if_pos g4, Zsa, if_pos trivial, if_neg (by simp), if_pos g5, List.nil_append, e1A.out]
    | true =>
      have hne := hc rfl
      have hpos : 0 < out.length := List.length_pos_iff.mpr hne
      have e3A : Aside0 (wrap64 ((out.length : Int) - 1) = (out.length : Int) - 1) := ⟨wrap64_of (by omega) (by omega)⟩
      have e4 : ((out.length : Int) - 1).toNat = out.length - 1 := by omega
      have g6 : (0 : Int) ≤ (out.length : Int) - 1 := by omega
      have g7 : (out.length : Int) - 1 < (out.length : Int) := by omega
      have g7' : (out.length : Int) - 1 ≤ (out.length : Int) := by omega
      have hlast : (rd_L3 out ((out.length : Int) - 1)).length ≤ out.flatten.length := by
        have := rd_L3_mem out (out.length - 1) (by omega)
        rw [show ((out.length - 1 : Nat) : Int) = (out.length : Int) - 1 by omega] at this
        exact mem_flatten_le _ _ this
      have g8 : (rd_L3 out ((out.length : Int) - 1)).length + b.length < 140737488355328 := by omega
      have g9 : ([] : List Int).length + (rd_L3 out ((out.length : Int) - 1)).length < 140737488355328 := by rw [List.length_nil]; omega
      have g10 : (out.take (out.length - 1)).length < 5864062014805 := by rw [Zga]; omega
      refine Ev.step (fun k => ?_) (tail (r.length) 1 (out.set (out.length - 1) (rd_L3 out ((out.length : Int) - 1) ++ b)) (by omega) (by simp) (by simp) (by rw [List.length_set]; omega) (by simp [addParts]))
      simp only [psalteryref18_Join_raw.l1, rb]
      rw [if_pos g1, Zsa, if_pos (by decide), if_pos g4, Zsa, if_pos trivial, if_pos trivial, Zsa, e3A.out, if_pos g6, if_pos g7, if_pos g9, Zsa]
      simp only [List.nil_append]
      rw [if_pos g8, if_pos g7', Zsa, e4, if_pos g10, set_last out _ hne, e1A.out]
theorem psalteryref18_Join.of {l : List S50} {r : List (List Int) × Int} (h : psalteryref18_Join.f l = some r) : ∃ k, psalteryref18_Join_raw.f k l = some r := by
  unfold psalteryref18_Join.f at h
  split at h
  case isFalse => cases h
  case isTrue hs0 =>
    injection h with h
    subst h
    obtain ⟨hn, hs⟩ := hs0
    refine Ev.rounds ?_
    unfold psalteryref18_Join_raw.f
    have go : ∀ (d j : Nat) (prev : Option Int) (o : Bool) (out : List (List Int)), j ≤ l.length → l.length - j = d → (prev = if j = 0 then none else some (rd_T50 l ((j : Int) - 1)).f0) → (o = if j = 0 then false else (rd_T50 l ((j : Int) - 1)).f5) → (∀ s, prev = some s → 0 ≤ s ∧ s ≤ 4294967295) → (o = true → out ≠ []) → out.length ≤ 1000 * j → out.flatten.length ≤ 70000000 * j →
        Ev (fun k => psalteryref18_Join_raw.l0 k l out (j : Int)) (joinGo ((l.drop j).map to43) prev o out) := by
      intro d
      induction d with
      | zero =>
        intro j prev o out hj hd hp hq hp2 ho hol hof
        obtain rfl : j = l.length := by omega
        rw [List.drop_length, Zfb, joinGo]
        refine Ev.step (f := fun _ => some (if o = true then ([], 7) else (out, 0))) (fun k => ?_) (Ev.now _)
        simp only [psalteryref18_Join_raw.l0]
        rw [if_neg (Int.lt_irrefl _)]
        by_cases h0 : l.length = 0
        · rw [if_neg (show ¬ (l.length : Int) > 0 by omega), hq, if_pos h0, if_neg (by simp)]
        · have e3A : Aside0 (wrap64 ((l.length : Int) - 1) = (l.length : Int) - 1) := ⟨wrap64_of (by omega) (by omega)⟩
          rw [if_pos (show (l.length : Int) > 0 by omega), e3A.out, if_pos (show (0 : Int) ≤ (l.length : Int) - 1 by omega), if_pos (show (l.length : Int) - 1 < (l.length : Int) by omega), hq, if_neg h0]
          cases (rd_T50 l ((l.length : Int) - 1)).f5 <;> rfl
      | succ d ih =>
        intro j prev o out hj hd hp hq hp2 ho hol hof
        have hj1 : j < l.length := by omega
        have g1 : (j : Int) < (l.length : Int) := by omega
        have g2 : (0 : Int) ≤ (j : Int) := by omega
        have hsm := hs _ (rd_T50_mem l j hj1)
        have e2A : Aside0 (wrap64 ((j : Int) + 1) = ((j + 1 : Nat) : Int)) := ⟨wsucc j (by omega)⟩
        have e3A : Aside0 (wrap64 ((j : Int) - 1) = (j : Int) - 1) := ⟨wrap64_of (by omega) (by omega)⟩
        rw [drop_T50 l j hj1, Zeb, joinGo]
        have hR : psalteryref18_Right.f (rd_T50 l (j : Int)).f0 (rd_T50 l (j : Int)).f1 (rd_T50 l (j : Int)).f2 (rd_T50 l (j : Int)).f3 (rd_T50 l (j : Int)).f4 (rd_T50 l (j : Int)).f5 (rd_T50 l (j : Int)).f6 = some (pageRight (rd_T50 l (j : Int)).f0 (rd_T50 l (j : Int)).f1 (rd_T50 l (j : Int)).f5 (rd_T50 l (j : Int)).f6) := by unfold psalteryref18_Right.f; exact if_pos hsm
        obtain ⟨p, hpj⟩ : ∃ p, rd_T50 l (j : Int) = p := ⟨_, rfl⟩
        rw [hpj] at hR hsm ⊢
        show Ev (fun k => psalteryref18_Join_raw.l0 k l out (j : Int)) (if pageRight p.f0 p.f1 p.f5 p.f6 = false then ([], 1) else if (p.f4 != o) = true ∨ badNext prev p.f0 = true ∨ (p.f4 = true ∧ p.f6 = []) then ([], 7) else joinGo ((l.drop (j + 1)).map to43) (some p.f0) p.f5 (addParts out p.f4 p.f6))
        have hnext : ∀ k, psalteryref18_Join_raw.j2 (k + 1) l out (j : Int) false p.f0 p.f1 p.f2 p.f3 p.f4 p.f5 p.f6 = psalteryref18_Join_raw.l1 k l out (j : Int) 0 p.f0 p.f1 p.f2 p.f3 p.f4 p.f5 p.f6 := fun k => by
          simp only [psalteryref18_Join_raw.j2]
          rw [if_neg (by simp)]
        have hbad : ∀ k, psalteryref18_Join_raw.j2 (k + 1) l out (j : Int) true p.f0 p.f1 p.f2 p.f3 p.f4 p.f5 p.f6 = some ([], 7) := fun k => by
          simp only [psalteryref18_Join_raw.j2]
          rw [if_pos trivial]
        cases hr : pageRight p.f0 p.f1 p.f5 p.f6 with
        | false =>
          rw [if_pos rfl]
          refine Ev.step (f := fun _ => some ([], 1)) (fun k => ?_) (Ev.now _)
          simp only [psalteryref18_Join_raw.l0]
          rw [if_pos g1, if_pos g2, hpj, hR, Zsa, hr, if_neg (by simp)]
        | true =>
          rw [if_neg (by simp)]
          have hri := (pageRight_iff ..).mp hr
          -- what stands ahead of the test of the order
          have hopen : ∀ k, psalteryref18_Join_raw.l0 (k + 1) l out (j : Int) = psalteryref18_Join_raw.j1 k l out (j : Int) o p.f0 p.f1 p.f2 p.f3 p.f4 p.f5 p.f6 := fun k => by
            simp only [psalteryref18_Join_raw.l0]
            rw [if_pos g1, if_pos g2, hpj, hR, Zsa, hr, if_pos rfl]
            by_cases hj0 : j = 0
            · rw [if_neg (show ¬ (j : Int) > 0 by omega), hq, if_pos hj0]
            · rw [if_pos (show (j : Int) > 0 by omega), e3A.out, if_pos (show (0 : Int) ≤ (j : Int) - 1 by omega), if_pos (show (j : Int) - 1 < (l.length : Int) by omega), hq, if_neg hj0]
          -- what the test of the order says
          have htest : ∀ k, psalteryref18_Join_raw.l0 (k + 3) l out (j : Int) = if (p.f4 != o) = true ∨ badNext prev p.f0 = true ∨ (p.f4 = true ∧ p.f6 = []) then some ([], 7) else psalteryref18_Join_raw.l1 k l out (j : Int) 0 p.f0 p.f1 p.f2 p.f3 p.f4 p.f5 p.f6 := fun k => by
            rw [hopen]
            simp only [psalteryref18_Join_raw.j1]
            by_cases h1 : (p.f4 != o) = true
            · rw [if_pos h1, if_pos (.inl h1)]
              exact hbad k
            · rw [if_neg h1]
              have hlast : (if p.f4 = true then psalteryref18_Join_raw.j2 (k + 1) l out (j : Int) (((p.f6.length : Int)) == 0) p.f0 p.f1 p.f2 p.f3 p.f4 p.f5 p.f6 else psalteryref18_Join_raw.j2 (k + 1) l out (j : Int) false p.f0 p.f1 p.f2 p.f3 p.f4 p.f5 p.f6) = if (p.f4 = true ∧ p.f6 = []) then some ([], 7) else psalteryref18_Join_raw.l1 k l out (j : Int) 0 p.f0 p.f1 p.f2 p.f3 p.f4 p.f5 p.f6 := by
                by_cases hc : p.f4 = true
                · rw [if_pos hc]
                  by_cases he : p.f6 = []
                  · rw [if_pos ⟨hc, he⟩, show ((p.f6.length : Int) == 0) = true from beq_iff_eq.mpr (by rw [he]; rfl)]
                    exact hbad k
                  · have hl0 : 0 < p.f6.length := List.length_pos_iff.mpr he
                    rw [if_neg (fun h => he h.2), show ((p.f6.length : Int) == 0) = false from beq_eq_false_iff_ne.mpr (by omega)]
                    exact hnext k
                · rw [if_neg hc, if_neg (fun h => hc h.1)]
                  exact hnext k
              by_cases hj0 : j = 0
              · subst hj0
                have hpn : prev = none := by rw [hp]; rfl
                have hbn : badNext prev p.f0 = false := by rw [hpn]; rfl
                rw [if_neg (show ¬ ((0 : Nat) : Int) > 0 by omega), hlast]
                simp only [h1, hbn, false_or, Bool.false_eq_true]
              · have hps : prev = some (rd_T50 l ((j : Int) - 1)).f0 := by rw [hp, if_neg hj0]
                have hbn : badNext prev p.f0 = (p.f0 != (rd_T50 l ((j : Int) - 1)).f0 + 1) := by rw [hps]; rfl
                have e5A : Aside0 (wrap64 (p.f0 - 1) = p.f0 - 1) := ⟨wrap64_of (by have := hri.1; omega) (by have := hri.2.1; omega)⟩
                rw [if_pos (show (j : Int) > 0 by omega), e3A.out, if_pos (show (0 : Int) ≤ (j : Int) - 1 by omega), if_pos (show (j : Int) - 1 < (l.length : Int) by omega), e5A.out, hbn]
                by_cases h6 : p.f0 - 1 = (rd_T50 l ((j : Int) - 1)).f0
                · rw [if_pos h6, hlast]
                  have h7 : (p.f0 != (rd_T50 l ((j : Int) - 1)).f0 + 1) = false := bne_eq_false_iff_eq.mpr (by omega)
                  simp only [h1, h7, false_or, Bool.false_eq_true]
                · rw [if_neg h6, if_pos (.inr (.inl (bne_iff_ne.mpr (by omega))))]
                  exact hbad k
          by_cases hx : (p.f4 != o) = true ∨ badNext prev p.f0 = true ∨ (p.f4 = true ∧ p.f6 = [])
          · rw [if_pos hx]
            exact ⟨3, fun k hk => by
              obtain ⟨m, rfl⟩ : ∃ m, k = m + 3 := ⟨k - 3, by omega⟩
              have := htest m
              rw [if_pos hx] at this
              exact this⟩
          · rw [if_neg hx]
            have hco : p.f4 = true → out ≠ [] := fun h => ho (by
              have : ¬ (p.f4 != o) = true := fun h' => hx (.inl h')
              rw [h] at this
              cases o with
              | true => rfl
              | false => exact absurd rfl this)
            have hal := addParts_length out p.f4 p.f6
            have haf := addParts_flatten out p.f4 p.f6 hco
            have hps := hsm.1
            have hfs := flatten_small p.f6 hsm.2
            have hnx : Ev (fun k => psalteryref18_Join_raw.l0 k l (addParts out p.f4 p.f6) (wrap64 ((j : Int) + 1))) (joinGo ((l.drop (j + 1)).map to43) (some p.f0) p.f5 (addParts out p.f4 p.f6)) := by
              rw [e2A.out]
              refine ih (j + 1) (some p.f0) p.f5 (addParts out p.f4 p.f6) (by omega) (by omega) ?_ ?_ ?_ ?_ ?_ ?_
              · rw [if_neg (by omega), show ((j + 1 : Nat) : Int) - 1 = (j : Int) by omega, hpj]
              · rw [if_neg (by omega), show ((j + 1 : Nat) : Int) - 1 = (j : Int) by omega, hpj]
              · intro s hs'
                injection hs' with hs'
                subst hs'
                exact ⟨hri.1, hri.2.1⟩
              · intro hm he
                have h8 := (hri.2.2.2.2.2 hm).1
                have h9 := congrArg List.length he
                rw [hal, List.length_nil] at h9
                by_cases hc : p.f4 = true
                · have := List.length_pos_iff.mpr (hco hc)
                  split at h9 <;> omega
                · rw [if_neg (fun h => hc h.1)] at h9
                  omega
              · rw [hal]; omega
              · rw [haf, List.length_append]; omega
            have hfin := psalteryref18_Join_l1 l p.f6 (j : Int) p.f0 p.f1 p.f2 p.f3 p.f4 p.f5 out _ hsm (by omega) (by omega) hco hnx
            obtain ⟨K, hK⟩ := hfin
            refine ⟨K + 3, fun k hk => ?_⟩
            obtain ⟨m, rfl⟩ : ∃ m, k = m + 3 := ⟨k - 3, by omega⟩
            have := htest m
            rw [if_neg hx] at this
            exact this.trans (hK m (by omega))
    have H := go l.length 0 none false [] (by omega) (by omega) rfl rfl (fun s h => by cases h) (fun h => by cases h) (by simp) (by simp)
    rw [List.drop_zero] at H
    exact H
theorem psalteryref18_Join.calls (A0 : Option Addr) (c0 : Nat) (l0 : List (S50)) (r1 : List (List Int)) (r2 : Int) (w : World) (hr0 : Kd.C k50 w A0 l0.length l0) (hc0 : l0.length ≤ c0) (h : psalteryref18_Join.f l0 = some (r1, r2)) :
  Calls Try.prog 58 #[.slice A0 l0.length c0] w fun e w' => ∃ v0_ : Value, e = .returned (.tuple #[v0_, .int .i64 r2]) ∧ Kd.S (Kd.slice 5 (Kd.int .u8)) 28 w' w.heap.size (fun _ => True) v0_ r1 ∧ Below w.heap.size w w' := by
  obtain ⟨k, hk⟩ := psalteryref18_Join.of h
  exact psalteryref18_Join_raw.calls k A0 c0 l0 r1 r2 w hr0 hc0 hk

end Go.Proofs.Yteoclecadpapfaa.G
