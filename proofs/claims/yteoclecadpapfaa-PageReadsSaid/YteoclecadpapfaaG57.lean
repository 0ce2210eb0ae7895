/- What a call of psaltery/psalteryref18.Read does, told by a plain Lean function of its arguments. Written by a program for this claim. -/
import Derived.Test.YteoclecadpapfaaG0
import Derived.Test.YteoclecadpapfaaG56
import Derived.Test.YteoclecadpapfaaG78
import Derived.Test.YteoclecadpapfaaM22
import Derived.Test.YteoclecadpapfaaM6
import Derived.Test.YteoclecadpapfaaM24
namespace Go.Proofs.Yteoclecadpapfaa.G
open Go.RowKit Go.Proofs.YteoclecadpapfaaW.PrintWords Go.Proofs.YteoclecadpapfaaW.PrintLast Go.Proofs.YteoclecadpapfaaW.PrintMore
attribute [local go_sem] max2_int min2_int max_two min_two max_three min_three max_four min_four
set_option linter.unusedVariables false
set_option linter.unusedSimpArgs false

/-! ### psalteryref18_Read_raw: function 57 -/
mutual
def psalteryref18_Read_raw.j0 : Nat → List Int → List Int → Int → Bool → Option (Int × Int × Bool × Bool × Bool × Bool × (List (List Int)) × Int × Int)
 | 0, _, _, _, _ => none
 | k + 1, x0, x1, x7, x52 => if x52 = true then (some (0, 0, false, false, false, false, ([] : List (List Int)), 0, 2)) else (if 21 < (x1.length : Int) then (if (x1.length : Int) < (wrap64 (22 + (wrap64 (rd x1 21)))) then (some (0, 0, false, false, false, false, ([] : List (List Int)), 0, 4)) else (if 13 ≤ 17 then (if 17 ≤ (x1.length : Int) then ((psalteryref18_value.f ((x1.take 17).drop 13)).bind fun t119 => (if 4 < (x1.length : Int) then (psalteryref18_Read_raw.l0 k x0 x1 (wrap64 (rd x1 21)) (wrap64 (22 + (wrap64 (rd x1 21)))) 0 0 (wrap64 (t119)) (wrap64 (x7)) ((((Int.tdiv (rd x1 4) 2) % 256) % 2) == 1) (((Int.tdiv (rd x1 4) 4) % 256) == 1) ((Int.tmod (rd x1 4) 2) == 1) false ([] : List (List Int))) else (none))) else (none)) else (none))) else (none))
def psalteryref18_Read_raw.l0 : Nat → List Int → List Int → Int → Int → Int → Int → Int → Int → Bool → Bool → Bool → Bool → List (List Int) → Option (Int × Int × Bool × Bool × Bool × Bool × (List (List Int)) × Int × Int)
 | 0, _, _, _, _, _, _, _, _, _, _, _, _, _ => none
 | k + 1, x0, x1, x8, x10, x11, x12, x124000, x124001, x124002, x124003, x124004, x124005, x124006 => if x12 < x8 then (if 0 ≤ (wrap64 (22 + x12)) then (if (wrap64 (22 + x12)) < (x1.length : Int) then (if (wrap64 (rd x1 (wrap64 (22 + x12)))) = 255 then (psalteryref18_Read_raw.j2 k x0 x1 x8 x10 (wrap64 (x11 + (wrap64 (rd x1 (wrap64 (22 + x12)))))) x12 (decide ((wrap64 (x12 + 1)) < x8)) x124000 x124001 x124002 x124003 x124004 ((wrap64 (rd x1 (wrap64 (22 + x12)))) == 255) x124006) else (psalteryref18_Read_raw.j2 k x0 x1 x8 x10 (wrap64 (x11 + (wrap64 (rd x1 (wrap64 (22 + x12)))))) x12 false x124000 x124001 x124002 x124003 x124004 ((wrap64 (rd x1 (wrap64 (22 + x12)))) == 255) x124006)) else (none)) else (none)) else ((psalteryref18_Write.f x0 x124000 x124001 x124002 x124003 x124004 x124005 x124006).bind fun t124 => (if 0 ≤ x10 then (if x10 ≤ (x1.length : Int) then (if (strOfNums t124).toList = (strOfNums (x1.take (x10 : Int).toNat)).toList then (some (x124000, x124001, x124002, x124003, x124004, x124005, x124006, x10, 0)) else (some (0, 0, false, false, false, false, ([] : List (List Int)), 0, 6))) else (none)) else (none)))
def psalteryref18_Read_raw.j2 : Nat → List Int → List Int → Int → Int → Int → Int → Bool → Int → Int → Bool → Bool → Bool → Bool → List (List Int) → Option (Int × Int × Bool × Bool × Bool × Bool × (List (List Int)) × Int × Int)
 | 0, _, _, _, _, _, _, _, _, _, _, _, _, _, _ => none
 | k + 1, x0, x1, x8, x10, x11, x12, x113, x124000, x124001, x124002, x124003, x124004, x124005, x124006 => if x113 = true then (psalteryref18_Read_raw.l0 k x0 x1 x8 x10 x11 (wrap64 (x12 + 1)) x124000 x124001 x124002 x124003 x124004 x124005 x124006) else (if (x1.length : Int) < (wrap64 (x10 + x11)) then (some (0, 0, false, false, false, false, ([] : List (List Int)), 0, 4)) else (if 0 ≤ x10 then (if x10 ≤ (wrap64 (x10 + x11)) then (if (wrap64 (x10 + x11)) ≤ (x1.length : Int) then (if x124006.length < 5864062014805 then (psalteryref18_Read_raw.l0 k x0 x1 x8 (wrap64 (x10 + x11)) 0 (wrap64 (x12 + 1)) x124000 x124001 x124002 x124003 x124004 x124005 (x124006 ++ [((x1.take ((wrap64 (x10 + x11)) : Int).toNat).drop (x10 : Int).toNat)])) else (none)) else (none)) else (none)) else (none)))
end
def psalteryref18_Read_raw.f (k : Nat) (l0 : List Int) (l1 : List Int) : Option (Int × Int × Bool × Bool × Bool × Bool × (List (List Int)) × Int × Int) := if (l1.length : Int) < 22 then (some (0, 0, false, false, false, false, ([] : List (List Int)), 0, 4)) else (if 5 ≤ 13 then (if 13 ≤ (l1.length : Int) then ((psalteryref18_value.f ((l1.take 13).drop 5)).bind fun t107 => (if 0 < (l1.length : Int) then (if (rd l1 0) = 80 then (if 1 < (l1.length : Int) then (if (rd l1 1) = 83 then (if 2 < (l1.length : Int) then (if (rd l1 2) = 76 then (if 3 < (l1.length : Int) then (if (rd l1 3) = 84 then (if 4 < (l1.length : Int) then (if (rd l1 4) > 7 then (psalteryref18_Read_raw.j0 k l0 l1 t107 true) else (psalteryref18_Read_raw.j0 k l0 l1 t107 (decide (t107 > 4611686018427387904)))) else (none)) else (psalteryref18_Read_raw.j0 k l0 l1 t107 true)) else (none)) else (psalteryref18_Read_raw.j0 k l0 l1 t107 true)) else (none)) else (psalteryref18_Read_raw.j0 k l0 l1 t107 true)) else (none)) else (psalteryref18_Read_raw.j0 k l0 l1 t107 true)) else (none))) else (none)) else (none))
theorem ref18_tm (x : Int) : (x % 256).tmod 2 = x % 256 % 2 := Int.tmod_eq_emod_of_nonneg (by omega)
theorem ref18_u8 (x : Int) : IntKind.u8.wrap x = x % 256 := IntKind.wrap_u8 x
def psalteryref18_Read_raw.T9 : Bool × List (List Nat × List Nat) := (true, [([], []), ([0], [0]), ([1], [1]), ([2], [2]), ([], []), ([4], [4]), ([], []), ([6], [6]), ([7], [7]), ([8], [8]), ([9], [9]), ([], []), ([11], [11]), ([12], [12]), ([13], [13]), ([14], [14]), ([15], [15]), ([], []), ([17], [17]), ([18], [18]), ([19], [19]), ([20], [20]), ([3, 5, 10, 16, 21], [3, 5, 10, 16, 21]), ([], []), ([23, 22, 2, 0, 1, 2, 3, 4, 5, 6, 7, 8, 9, 10, 11, 12, 13, 14, 15, 16, 17, 18, 19, 20, 21, 22, 23], [22, 23])])
def psalteryref18_Read_raw.B9 : List Nat := [0, 1, 3, 7, 0, 16, 0, 64, 192, 448, 960, 0, 2048, 6144, 14336, 30720, 63488, 0, 131072, 393216, 917504, 1966080, 4194303, 0, 16777215]
theorem psalteryref18_Read_raw.tab9 : rtab .any (opsOf Try.f57 9) = psalteryref18_Read_raw.T9 := by kernel_rfl
theorem psalteryref18_Read_raw.bits9 : waitsOk psalteryref18_Read_raw.T9.2 psalteryref18_Read_raw.B9 = true := by kernel_rfl
def psalteryref18_Read_raw.T21 : Bool × List (List Nat × List Nat) := (true, [([], []), ([0], [0]), ([], []), ([], []), ([], []), ([], []), ([4, 5], [4, 5]), ([2, 3, 6], [2, 3, 6]), ([7], [7]), ([1, 8], [1, 8]), ([0, 1, 2, 3, 4, 5, 6, 7, 8, 9], []), ([10, 9, 9, 0, 1, 2, 3, 4, 5, 6, 7, 8, 9], [9, 10])])
def psalteryref18_Read_raw.B21 : List Nat := [0, 1, 0, 0, 0, 0, 48, 124, 252, 511, 1023, 2047]
theorem psalteryref18_Read_raw.tab21 : rtab .any (opsOf Try.f57 21) = psalteryref18_Read_raw.T21 := by kernel_rfl
theorem psalteryref18_Read_raw.bits21 : waitsOk psalteryref18_Read_raw.T21.2 psalteryref18_Read_raw.B21 = true := by kernel_rfl
def psalteryref18_Read_raw.T24 : Bool × List (List Nat × List Nat) := (true, [([], []), ([], []), ([0, 1], [0, 1]), ([2], [2]), ([], []), ([], []), ([4, 5], [4, 5]), ([6], [6]), ([3, 7], [3, 7])])
def psalteryref18_Read_raw.B24 : List Nat := [0, 0, 3, 7, 0, 0, 48, 112, 255]
theorem psalteryref18_Read_raw.tab24 : rtab .any (opsOf Try.f57 24) = psalteryref18_Read_raw.T24 := by kernel_rfl
theorem psalteryref18_Read_raw.bits24 : waitsOk psalteryref18_Read_raw.T24.2 psalteryref18_Read_raw.B24 = true := by kernel_rfl
set_option maxHeartbeats 8000000 in
set_option maxRecDepth 100000 in
theorem psalteryref18_Read_raw.calls (k : Nat) (A0 : Option Addr) (c0 : Nat) (l0 : List Int) (P1_ : Nat → Prop) (A1 : Option Addr) (c1 : Nat) (l1 : List Int) (r1 : Int) (r2 : Int) (r3 : Bool) (r4 : Bool) (r5 : Bool) (r6 : Bool) (r7 : List (List Int)) (r8 : Int) (r9 : Int) (w : World) (hr0 : Kd.C (Kd.int .u32) w A0 l0.length l0) (hc0 : l0.length ≤ c0) (hs1 : Kd.V (Kd.int .u8) 5 w w.heap.size (fun k_ => P1_ k_) (.slice A1 l1.length c1) l1) (h : psalteryref18_Read_raw.f k l0 l1 = some (r1, r2, r3, r4, r5, r6, r7, r8, r9)) :
  Calls Try.prog 57 #[.slice A0 l0.length c0, .slice A1 l1.length c1] w fun e w' => ∃ v6_ : Value, e = .returned (.tuple #[.agg #[.int .i64 r1, .int .i64 r2, .bool r3, .bool r4, .bool r5, .bool r6, v6_], .int .i64 r8, .int .i64 r9]) ∧ Kd.N (Kd.slice 5 (Kd.int .u8)) 28 w' w.heap.size (fun k_ => (P1_ k_ ∨ w.heap.size ≤ k_)) v6_ r7 ∧ Below w.heap.size w w' := by
 have hu50 := Try.underlying50
 have HR0 := Zma hr0
 have HC0 := Zma hc0
 clear hr0 hc0
 have HO1 := Zma (show Kd.V (Kd.int .u8) 5 w w.heap.size (fun k_ => (P1_ k_ ∨ w.heap.size ≤ k_)) (.slice A1 l1.length c1) l1 from Zwa hs1 (fun k_ hk => .inl hk))
 have HB := Zma (Below.refl w.heap.size w)
 have H : (if (l1.length : Int) < 22 then (some (0, 0, false, false, false, false, ([] : List (List Int)), 0, 4)) else (if 5 ≤ 13 then (if 13 ≤ (l1.length : Int) then ((psalteryref18_value.f ((l1.take 13).drop 5)).bind fun t107 => (if 0 < (l1.length : Int) then (if (rd l1 0) = 80 then (if 1 < (l1.length : Int) then (if (rd l1 1) = 83 then (if 2 < (l1.length : Int) then (if (rd l1 2) = 76 then (if 3 < (l1.length : Int) then (if (rd l1 3) = 84 then (if 4 < (l1.length : Int) then (if (rd l1 4) > 7 then (psalteryref18_Read_raw.j0 k l0 l1 t107 true) else (psalteryref18_Read_raw.j0 k l0 l1 t107 (decide (t107 > 4611686018427387904)))) else (none)) else (psalteryref18_Read_raw.j0 k l0 l1 t107 true)) else (none)) else (psalteryref18_Read_raw.j0 k l0 l1 t107 true)) else (none)) else (psalteryref18_Read_raw.j0 k l0 l1 t107 true)) else (none)) else (psalteryref18_Read_raw.j0 k l0 l1 t107 true)) else (none))) else (none)) else (none))) = some (r1, r2, r3, r4, r5, r6, r7, r8, r9) := h
 clear h
 by_cases c3 : (l1.length : Int) < 22
 ·rw [if_pos c3] at H
  have c3b0 : decide ((l1.length : Int) < 22) = true := Zn c3
  have c3b1 : decide (l1.length < 22) = true := Zn (by omega)
  clear c3
  simp only [Zib, Zhb] at H
  obtain ⟨rfl, rfl, rfl, rfl, rfl, rfl, rfl, rfl, rfl⟩ := H
  go_enter Try.func57, Try.ntmps57
  go_wp2_with (first | ((with_reducible refine gate_dst (N := 4) rfl ?_); refine box_event ?hg (N := 4) ?hd (cs := #[.int .i64 0, .int .i64 0, .bool false, .bool false, .bool false, .bool false, .slice none 0 0]) (t := 50) ?hr ?_; (case hd => rfl); (case hg => rfl); (case hr => first | (go_simp; done) | (go_simp; rfl)); intro gb101 hg w4 hbox hb; have n0_ := Zma (Zya (Kd.V_elderB (vq HO1.out) gb101 (Nat.le_of_eq hg.symm)) hb); have n1_ := Zma (Zoa bq hb); have n2_ := Zma (hbox); have n3_ := Zma ((by rw [hg]; exact (Zfa bq) : w.heap.size ≤ gb101)); have n4_ := Zma ((by rw [hg]; exact (Zfa bq) : w.heap.size ≤ gb101)); clear HO1 HB; have HO1 := n0_; have HB := n1_; have BK101 := n2_; have GW101 := n3_; have GE101 := n4_; clear n0_ n1_ n2_ n3_ n4_ hb hbox hg; obtain ⟨hcz5_0, hcz5_1, hcz5_2, hcz5_3, hcz5_4, hcz5_5, hcz5_6, hfz5_0, hfz5_1, hfz5_2, hfz5_3, hfz5_4, hfz5_5, hfz5_6⟩ := blk7 BK101.out))
  refine bodyPost_ret (Zta rfl _ _ gb101 50 #[.int .i64 0, .int .i64 0, .bool false, .bool false, .bool false, .bool false, .slice none 0 0] (0, 0) _ rfl (by refine kq ?_; exact put7 (kq BK101.out)) Try.underlying50 rfl (by kernel_rfl)) rfl ?_
  exact ⟨_, by first | rfl | (simp [errW_none, errW_some] <;> rfl) | (simp [*, errW_none, errW_some] <;> rfl), by first | exact Kd.S_nil _ _ _ _ _ | exact Kd.N_nil _ _ _ _ _ | exact Kd.V_nil _ _ _ _ _ | exact Kd.Q_nil _ _ _ _ _ | exact Kd.R_nil _ _ _ _ _, bq⟩
 rw [if_neg c3] at H
 have c3b0 : decide ((l1.length : Int) < 22) = false := Zna c3
 have c3b1 : decide (l1.length < 22) = false := Zna (by omega)
 clear c3
 by_cases c6 : 5 ≤ 13
 rotate_left
 ·rw [if_neg c6] at H
  exact absurd H (by simp)
 rw [if_pos c6] at H
 have c6b0 := Zja c6
 have c6b1 : decide (5 ≤ 13) = true := Zn c6
 clear c6
 by_cases c7 : 13 ≤ (l1.length : Int)
 rotate_left
 ·rw [if_neg c7] at H
  exact absurd H (by simp)
 rw [if_pos c7] at H
 have c7b0 := Zja c7
 have c7b1 : decide (13 ≤ (l1.length : Int)) = true := Zn c7
 clear c7
 obtain ⟨y102, hy102⟩ : ∃ y_ : List Int, y_ = ((l1.take 13).drop 5) := ⟨_, rfl⟩
 replace H : ((psalteryref18_value.f y102).bind fun t107 => (if 0 < (l1.length : Int) then (if (rd l1 0) = 80 then (if 1 < (l1.length : Int) then (if (rd l1 1) = 83 then (if 2 < (l1.length : Int) then (if (rd l1 2) = 76 then (if 3 < (l1.length : Int) then (if (rd l1 3) = 84 then (if 4 < (l1.length : Int) then (if (rd l1 4) > 7 then (psalteryref18_Read_raw.j0 k l0 l1 t107 true) else (psalteryref18_Read_raw.j0 k l0 l1 t107 (decide (t107 > 4611686018427387904)))) else (none)) else (psalteryref18_Read_raw.j0 k l0 l1 t107 true)) else (none)) else (psalteryref18_Read_raw.j0 k l0 l1 t107 true)) else (none)) else (psalteryref18_Read_raw.j0 k l0 l1 t107 true)) else (none)) else (psalteryref18_Read_raw.j0 k l0 l1 t107 true)) else (none))) = some (r1, r2, r3, r4, r5, r6, r7, r8, r9) := by first | (rw [hy102]; with_reducible exact H) | (have H2_ := (Zsa _ _).symm.trans H; rw [hy102]; with_reducible exact H2_) | (have H2_ := (Zsa _ _).symm.trans H; with_reducible exact H2_) | with_reducible exact H | (rw [hy102]; exact H) | exact H
 have Ny102 := Zma hy102
 clear hy102
 replace H := Option.bind_eq_some_iff.mp H
 obtain ⟨t107, A80, H⟩ := H
 replace H : (if 0 < (l1.length : Int) then (if (rd l1 0) = 80 then (if 1 < (l1.length : Int) then (if (rd l1 1) = 83 then (if 2 < (l1.length : Int) then (if (rd l1 2) = 76 then (if 3 < (l1.length : Int) then (if (rd l1 3) = 84 then (if 4 < (l1.length : Int) then (if (rd l1 4) > 7 then (psalteryref18_Read_raw.j0 k l0 l1 t107 true) else (psalteryref18_Read_raw.j0 k l0 l1 t107 (decide (t107 > 4611686018427387904)))) else (none)) else (psalteryref18_Read_raw.j0 k l0 l1 t107 true)) else (none)) else (psalteryref18_Read_raw.j0 k l0 l1 t107 true)) else (none)) else (psalteryref18_Read_raw.j0 k l0 l1 t107 true)) else (none)) else (psalteryref18_Read_raw.j0 k l0 l1 t107 true)) else (none)) = some (r1, r2, r3, r4, r5, r6, r7, r8, r9) := H
 have A8 := Zma A80
 clear A80
 have HC9 := Zma H
 clear H
 go_enter Try.func57, Try.ntmps57
 go_upto_region 4 with (first | ((with_reducible refine gate_dst (N := 4) rfl ?_); refine box_event ?hg (N := 4) ?hd (cs := #[.int .i64 0, .int .i64 0, .bool false, .bool false, .bool false, .bool false, .slice none 0 0]) (t := 50) ?hr ?_; (case hd => rfl); (case hg => rfl); (case hr => first | (go_simp; done) | (go_simp; rfl)); intro gb101 hg w10 hbox hb; have n0_ := Zma (Zya (Kd.V_elderB (vq HO1.out) gb101 (Nat.le_of_eq hg.symm)) hb); have n1_ := Zma (Zoa bq hb); have n2_ := Zma (hbox); have n3_ := Zma ((by rw [hg]; exact (Zfa bq) : w.heap.size ≤ gb101)); have n4_ := Zma ((by rw [hg]; exact (Zfa bq) : w.heap.size ≤ gb101)); clear HO1 HB; have HO1 := n0_; have HB := n1_; have BK101 := n2_; have GW101 := n3_; have GE101 := n4_; clear n0_ n1_ n2_ n3_ n4_ hb hbox hg; have q11 : (13 : Int) ≤ ((l1.length : Int) : Int) := Zg (by first | (with_reducible assumption) | assumption); obtain ⟨i011, hi011, _, hsz11, _⟩ := info_parts info5; have hroom11 : l1.length ≤ c1 := (Zjb HO1.out).2.1; have hC11 : Kd.F (Kd.int .u8) _ _ A1 l1.length l1 := (Kd.V_at (base := w.heap.size) HO1.out).2.2; have ql11 : (5 : Int) ≤ (13 : Int) := (by omega); have hcut11 := cut_mid (P := Try.prog) 28 5 .i64 .i64 Try.underlying28 hi011 1 hsz11 A1 l1.length c1 5 13 (by omega) ql11 q11 hroom11; have hr11 := Zmb (lo := (5 : Int).toNat) (hi := (13 : Int).toNat) (c := c1) hC11 (by omega) (by omega) hroom11; obtain ⟨A11, hA11⟩ : ∃ A1_, A1_ = (if c1 = (5 : Int).toNat then A1 else (A1 : Option Addr).map (·.add ((5 : Int).toNat * 1))) := ⟨_, rfl⟩; obtain ⟨c11, hc11⟩ : ∃ c1_, c1_ = c1 - (5 : Int).toNat := ⟨_, rfl⟩; have hy11 : y102.length = (13 : Int).toNat - (5 : Int).toNat := (by rw [Ny102.out, Zha, Zga] <;> omega); rw [show ((l1).take (13 : Int).toNat).drop (5 : Int).toNat = y102 from Ny102.out.symm] at hr11; replace hr11 : Kd.F (Kd.int .u8) _ _ A11 y102.length y102 := (by rw [hA11]; exact hr11); rw [← hy11, ← hA11, ← hc11] at hcut11; have HO106 := Zma (show Kd.V (Kd.int .u8) 5 _ w.heap.size _ (.slice A11 y102.length c11) y102 from Kd.V_mk (by rw [hy11, hc11]; exact Nat.sub_le_sub_right (Nat.le_trans (by omega) hroom11) _) hr11); have HC106 := Zma (show y102.length ≤ c11 from by rw [hy11, hc11]; exact Nat.sub_le_sub_right (Nat.le_trans (by omega) hroom11) _); clear hr11 hC11 hroom11 hi011 hsz11 hc11; have KY11 := Zma hy11; have KA11 := Zma hA11; clear hy11 hA11; replace q11 := Zja q11) | ((with_reducible refine gate_callee (f := 78) rfl ?_); refine goesL_ (some 20) rfl rfl Try.func78 (by kernel_rfl) rfl #[.slice A11 y102.length c11] rfl (by (try simp only [Zdb, Zeb, Zfb]); first | done | rfl | (simp only [Zha, Zga]; rfl)) ?_; (with_reducible refine (psalteryref18_value.calls _ _ y102 t107 _ ?side1 ?side2 A8.out).mono ?_); (case side1 => exact cq ((Zjb HO106.out).2.2)); (case side2 => exact (Zjb HO106.out).2.1); rintro e w' ⟨rfl, ⟨nd, rfl⟩⟩; refine ⟨_, rfl, ?_⟩))
 (try simp only [Act.put, Za, Zb, Zc])
 go_cut [52] (fun v52 wc => ∃ (kq : Nat) (x52_8 : Bool), v52 = .bool x52_8 ∧ Aside0 (psalteryref18_Read_raw.j0 kq l0 l1 t107 x52_8 = some (r1, r2, r3, r4, r5, r6, r7, r8, r9)) ∧ Aside0 (kq ≤ k) ∧ Aside0 (Kd.V (Kd.int .u8) 5 wc w.heap.size (fun k_ => (P1_ k_ ∨ w.heap.size ≤ k_) ∧ k_ ≠ gb101) (.slice A1 l1.length c1) l1) ∧ Aside0 (wc.heap[gb101]? = some (.cells #[.int .i64 0, .int .i64 0, .bool false, .bool false, .bool false, .bool false, (.slice none 0 0)] 50 (0, 0))) ∧ Aside0 (Below w.heap.size w wc))
 case first =>
  have H := HC9.out
  clear HC9
  by_cases c12 : 0 < (l1.length : Int)
  rotate_left
  ·rw [if_neg c12] at H
   exact absurd H (by simp)
  rw [if_pos c12] at H
  have c12b0 : decide (0 < (l1.length : Int)) = true := Zn c12
  have c12b1 : decide (0 < l1.length) = true := Zn (by omega)
  clear c12
  (first | rw [c12b0] | (simp only [i64_w, i32_w]; rw [c12b0]) | skip)
  by_cases c13 : (rd l1 0) = 80
  ·rw [if_pos c13] at H
   have c13b0 : ((rd l1 0) == 80) = true := beq_iff_eq.mpr c13
   have c13b1 : ((rd l1 0) != 80) = false := bne_eq_false_iff_eq.mpr c13
   clear c13
   by_cases c14 : 1 < (l1.length : Int)
   rotate_left
   ·rw [if_neg c14] at H
    exact absurd H (by simp)
   rw [if_pos c14] at H
   have c14b0 : decide (1 < (l1.length : Int)) = true := Zn c14
   have c14b1 : decide (1 < l1.length) = true := Zn (by omega)
   clear c14
   by_cases c15 : (rd l1 1) = 83
   ·rw [if_pos c15] at H
    have c15b0 : ((rd l1 1) == 83) = true := beq_iff_eq.mpr c15
    have c15b1 : ((rd l1 1) != 83) = false := bne_eq_false_iff_eq.mpr c15
    clear c15
    by_cases c16 : 2 < (l1.length : Int)
    rotate_left
    ·rw [if_neg c16] at H
     exact absurd H (by simp)
    rw [if_pos c16] at H
    have c16b0 : decide (2 < (l1.length : Int)) = true := Zn c16
    have c16b1 : decide (2 < l1.length) = true := Zn (by omega)
    clear c16
    by_cases c17 : (rd l1 2) = 76
    ·rw [if_pos c17] at H
     have c17b0 : ((rd l1 2) == 76) = true := beq_iff_eq.mpr c17
     have c17b1 : ((rd l1 2) != 76) = false := bne_eq_false_iff_eq.mpr c17
     clear c17
     by_cases c18 : 3 < (l1.length : Int)
     rotate_left
     ·rw [if_neg c18] at H
      exact absurd H (by simp)
     rw [if_pos c18] at H
     have c18b0 : decide (3 < (l1.length : Int)) = true := Zn c18
     have c18b1 : decide (3 < l1.length) = true := Zn (by omega)
     clear c18
     by_cases c19 : (rd l1 3) = 84
     ·rw [if_pos c19] at H
      have c19b0 : ((rd l1 3) == 84) = true := beq_iff_eq.mpr c19
      have c19b1 : ((rd l1 3) != 84) = false := bne_eq_false_iff_eq.mpr c19
      clear c19
      by_cases c20 : 4 < (l1.length : Int)
      rotate_left
      ·rw [if_neg c20] at H
       exact absurd H (by simp)
      rw [if_pos c20] at H
      have c20b0 : decide (4 < (l1.length : Int)) = true := Zn c20
      have c20b1 : decide (4 < l1.length) = true := Zn (by omega)
      clear c20
      by_cases c21 : (rd l1 4) > 7
      ·rw [if_pos c21] at H
       have c21b0 : decide (7 < (rd l1 4)) = true := Zn c21
       clear c21
       have H' := Zma H
       clear H
       have p108 : 0 ≤ (0 : Int) := (by omega)
       have q108 : 0 < (l1.length : Int) := Zg (by first | (with_reducible assumption) | assumption)
       obtain ⟨ad108, e108, hx108_0⟩ := Znb (Zjb HO1.out).2.2 0 p108 q108
       cases e108
       have qi108 : (0 < l1.length) = True := Zja (by omega)
       (try rw [show ((0 : Int)).toNat = 0 from rfl] at hx108_0)
       (try rw [Addr.add_zero'] at hx108_0)
       replace p108 := Zja p108
       replace q108 := Zja q108
       have p109 : 0 ≤ (1 : Int) := (by omega)
       have q109 : 1 < (l1.length : Int) := Zg (by first | (with_reducible assumption) | assumption)
       obtain ⟨ad109, e109, hx109_0⟩ := Znb (Zjb HO1.out).2.2 1 p109 q109
       obtain rfl : ad108 = ad109 := (by injection e109)
       (try simp only [show (1 : Int).toNat = 1 from rfl, Nat.reduceMul, Nat.reduceEqDiff, Go.Addr.add, ↓reduceIte] at hx109_0)
       have qi109 : (1 < l1.length) = True := Zja (by omega)
       (try rw [show ((1 : Int)).toNat = 1 from rfl] at hx109_0)
       replace p109 := Zja p109
       replace q109 := Zja q109
       have p110 : 0 ≤ (2 : Int) := (by omega)
       have q110 : 2 < (l1.length : Int) := Zg (by first | (with_reducible assumption) | assumption)
       obtain ⟨ad110, e110, hx110_0⟩ := Znb (Zjb HO1.out).2.2 2 p110 q110
       obtain rfl : ad108 = ad110 := (by injection e110)
       (try simp only [show (2 : Int).toNat = 2 from rfl, Nat.reduceMul, Nat.reduceEqDiff, Go.Addr.add, ↓reduceIte] at hx110_0)
       have qi110 : (2 < l1.length) = True := Zja (by omega)
       (try rw [show ((2 : Int)).toNat = 2 from rfl] at hx110_0)
       replace p110 := Zja p110
       replace q110 := Zja q110
       have p111 : 0 ≤ (3 : Int) := (by omega)
       have q111 : 3 < (l1.length : Int) := Zg (by first | (with_reducible assumption) | assumption)
       obtain ⟨ad111, e111, hx111_0⟩ := Znb (Zjb HO1.out).2.2 3 p111 q111
       obtain rfl : ad108 = ad111 := (by injection e111)
       (try simp only [show (3 : Int).toNat = 3 from rfl, Nat.reduceMul, Nat.reduceEqDiff, Go.Addr.add, ↓reduceIte] at hx111_0)
       have qi111 : (3 < l1.length) = True := Zja (by omega)
       (try rw [show ((3 : Int)).toNat = 3 from rfl] at hx111_0)
       replace p111 := Zja p111
       replace q111 := Zja q111
       have p112 : 0 ≤ (4 : Int) := (by omega)
       have q112 : 4 < (l1.length : Int) := Zg (by first | (with_reducible assumption) | assumption)
       obtain ⟨ad112, e112, hx112_0⟩ := Znb (Zjb HO1.out).2.2 4 p112 q112
       obtain rfl : ad108 = ad112 := (by injection e112)
       (try simp only [show (4 : Int).toNat = 4 from rfl, Nat.reduceMul, Nat.reduceEqDiff, Go.Addr.add, ↓reduceIte] at hx112_0)
       have qi112 : (4 < l1.length) = True := Zja (by omega)
       (try rw [show ((4 : Int)).toNat = 4 from rfl] at hx112_0)
       replace p112 := Zja p112
       replace q112 := Zja q112
       go_wp2
       go_meet
       case rel => exact ⟨_, (true), (by first | rfl | (simp; done) | (simp [*]; done)), H', ⟨by first | omega | exact Zra _⟩, ⟨vq HO1.out⟩, ⟨kq BK101.out⟩, ⟨bq⟩⟩
      rw [if_neg c21] at H
      have c21b0 : decide (7 < (rd l1 4)) = false := Zna c21
      clear c21
      have H' := Zma H
      clear H
      have p108 : 0 ≤ (0 : Int) := (by omega)
      have q108 : 0 < (l1.length : Int) := Zg (by first | (with_reducible assumption) | assumption)
      obtain ⟨ad108, e108, hx108_0⟩ := Znb (Zjb HO1.out).2.2 0 p108 q108
      cases e108
      have qi108 : (0 < l1.length) = True := Zja (by omega)
      (try rw [show ((0 : Int)).toNat = 0 from rfl] at hx108_0)
      (try rw [Addr.add_zero'] at hx108_0)
      replace p108 := Zja p108
      replace q108 := Zja q108
      have p109 : 0 ≤ (1 : Int) := (by omega)
      have q109 : 1 < (l1.length : Int) := Zg (by first | (with_reducible assumption) | assumption)
      obtain ⟨ad109, e109, hx109_0⟩ := Znb (Zjb HO1.out).2.2 1 p109 q109
      obtain rfl : ad108 = ad109 := (by injection e109)
      (try simp only [show (1 : Int).toNat = 1 from rfl, Nat.reduceMul, Nat.reduceEqDiff, Go.Addr.add, ↓reduceIte] at hx109_0)
      have qi109 : (1 < l1.length) = True := Zja (by omega)
      (try rw [show ((1 : Int)).toNat = 1 from rfl] at hx109_0)
      replace p109 := Zja p109
      replace q109 := Zja q109
      have p110 : 0 ≤ (2 : Int) := (by omega)
      have q110 : 2 < (l1.length : Int) := Zg (by first | (with_reducible assumption) | assumption)
      obtain ⟨ad110, e110, hx110_0⟩ := Znb (Zjb HO1.out).2.2 2 p110 q110
      obtain rfl : ad108 = ad110 := (by injection e110)
      (try simp only [show (2 : Int).toNat = 2 from rfl, Nat.reduceMul, Nat.reduceEqDiff, Go.Addr.add, ↓reduceIte] at hx110_0)
      have qi110 : (2 < l1.length) = True := Zja (by omega)
      (try rw [show ((2 : Int)).toNat = 2 from rfl] at hx110_0)
      replace p110 := Zja p110
      replace q110 := Zja q110
      have p111 : 0 ≤ (3 : Int) := (by omega)
      have q111 : 3 < (l1.length : Int) := Zg (by first | (with_reducible assumption) | assumption)
      obtain ⟨ad111, e111, hx111_0⟩ := Znb (Zjb HO1.out).2.2 3 p111 q111
      obtain rfl : ad108 = ad111 := (by injection e111)
      (try simp only [show (3 : Int).toNat = 3 from rfl, Nat.reduceMul, Nat.reduceEqDiff, Go.Addr.add, ↓reduceIte] at hx111_0)
      have qi111 : (3 < l1.length) = True := Zja (by omega)
      (try rw [show ((3 : Int)).toNat = 3 from rfl] at hx111_0)
      replace p111 := Zja p111
      replace q111 := Zja q111
      have p112 : 0 ≤ (4 : Int) := (by omega)
      have q112 : 4 < (l1.length : Int) := Zg (by first | (with_reducible assumption) | assumption)
      obtain ⟨ad112, e112, hx112_0⟩ := Znb (Zjb HO1.out).2.2 4 p112 q112
      obtain rfl : ad108 = ad112 := (by injection e112)
      (try simp only [show (4 : Int).toNat = 4 from rfl, Nat.reduceMul, Nat.reduceEqDiff, Go.Addr.add, ↓reduceIte] at hx112_0)
      have qi112 : (4 < l1.length) = True := Zja (by omega)
      (try rw [show ((4 : Int)).toNat = 4 from rfl] at hx112_0)
      replace p112 := Zja p112
      replace q112 := Zja q112
      go_wp2
      go_meet
      case rel => exact ⟨_, (decide (t107 > 4611686018427387904)), (by first | rfl | (simp; done) | (simp [*]; done)), H', ⟨by first | omega | exact Zra _⟩, ⟨vq HO1.out⟩, ⟨kq BK101.out⟩, ⟨bq⟩⟩
     rw [if_neg c19] at H
     have c19b0 : ((rd l1 3) == 84) = false := beq_eq_false_iff_ne.mpr c19
     have c19b1 : ((rd l1 3) != 84) = true := bne_iff_ne.mpr c19
     have H' := Zma H
     clear H
     have p108 : 0 ≤ (0 : Int) := (by omega)
     have q108 : 0 < (l1.length : Int) := Zg (by first | (with_reducible assumption) | assumption)
     obtain ⟨ad108, e108, hx108_0⟩ := Znb (Zjb HO1.out).2.2 0 p108 q108
     cases e108
     have qi108 : (0 < l1.length) = True := Zja (by omega)
     (try rw [show ((0 : Int)).toNat = 0 from rfl] at hx108_0)
     (try rw [Addr.add_zero'] at hx108_0)
     replace p108 := Zja p108
     replace q108 := Zja q108
     have p109 : 0 ≤ (1 : Int) := (by omega)
     have q109 : 1 < (l1.length : Int) := Zg (by first | (with_reducible assumption) | assumption)
     obtain ⟨ad109, e109, hx109_0⟩ := Znb (Zjb HO1.out).2.2 1 p109 q109
     obtain rfl : ad108 = ad109 := (by injection e109)
     (try simp only [show (1 : Int).toNat = 1 from rfl, Nat.reduceMul, Nat.reduceEqDiff, Go.Addr.add, ↓reduceIte] at hx109_0)
     have qi109 : (1 < l1.length) = True := Zja (by omega)
     (try rw [show ((1 : Int)).toNat = 1 from rfl] at hx109_0)
     replace p109 := Zja p109
     replace q109 := Zja q109
     have p110 : 0 ≤ (2 : Int) := (by omega)
     have q110 : 2 < (l1.length : Int) := Zg (by first | (with_reducible assumption) | assumption)
     obtain ⟨ad110, e110, hx110_0⟩ := Znb (Zjb HO1.out).2.2 2 p110 q110
     obtain rfl : ad108 = ad110 := (by injection e110)
     (try simp only [show (2 : Int).toNat = 2 from rfl, Nat.reduceMul, Nat.reduceEqDiff, Go.Addr.add, ↓reduceIte] at hx110_0)
     have qi110 : (2 < l1.length) = True := Zja (by omega)
     (try rw [show ((2 : Int)).toNat = 2 from rfl] at hx110_0)
     replace p110 := Zja p110
     replace q110 := Zja q110
     have p111 : 0 ≤ (3 : Int) := (by omega)
     have q111 : 3 < (l1.length : Int) := Zg (by first | (with_reducible assumption) | assumption)
     obtain ⟨ad111, e111, hx111_0⟩ := Znb (Zjb HO1.out).2.2 3 p111 q111
     obtain rfl : ad108 = ad111 := (by injection e111)
     (try simp only [show (3 : Int).toNat = 3 from rfl, Nat.reduceMul, Nat.reduceEqDiff, Go.Addr.add, ↓reduceIte] at hx111_0)
     have qi111 : (3 < l1.length) = True := Zja (by omega)
     (try rw [show ((3 : Int)).toNat = 3 from rfl] at hx111_0)
     replace p111 := Zja p111
     replace q111 := Zja q111
     go_wp2
     go_meet
     case rel => exact ⟨_, (true), (by first | rfl | (simp; done) | (simp [*]; done)), H', ⟨by first | omega | exact Zra _⟩, ⟨vq HO1.out⟩, ⟨kq BK101.out⟩, ⟨bq⟩⟩
    rw [if_neg c17] at H
    have c17b0 : ((rd l1 2) == 76) = false := beq_eq_false_iff_ne.mpr c17
    have c17b1 : ((rd l1 2) != 76) = true := bne_iff_ne.mpr c17
    have H' := Zma H
    clear H
    have p108 : 0 ≤ (0 : Int) := (by omega)
    have q108 : 0 < (l1.length : Int) := Zg (by first | (with_reducible assumption) | assumption)
    obtain ⟨ad108, e108, hx108_0⟩ := Znb (Zjb HO1.out).2.2 0 p108 q108
    cases e108
    have qi108 : (0 < l1.length) = True := Zja (by omega)
    (try rw [show ((0 : Int)).toNat = 0 from rfl] at hx108_0)
    (try rw [Addr.add_zero'] at hx108_0)
    replace p108 := Zja p108
    replace q108 := Zja q108
    have p109 : 0 ≤ (1 : Int) := (by omega)
    have q109 : 1 < (l1.length : Int) := Zg (by first | (with_reducible assumption) | assumption)
    obtain ⟨ad109, e109, hx109_0⟩ := Znb (Zjb HO1.out).2.2 1 p109 q109
    obtain rfl : ad108 = ad109 := (by injection e109)
    (try simp only [show (1 : Int).toNat = 1 from rfl, Nat.reduceMul, Nat.reduceEqDiff, Go.Addr.add, ↓reduceIte] at hx109_0)
    have qi109 : (1 < l1.length) = True := Zja (by omega)
    (try rw [show ((1 : Int)).toNat = 1 from rfl] at hx109_0)
    replace p109 := Zja p109
    replace q109 := Zja q109
    have p110 : 0 ≤ (2 : Int) := (by omega)
    have q110 : 2 < (l1.length : Int) := Zg (by first | (with_reducible assumption) | assumption)
    obtain ⟨ad110, e110, hx110_0⟩ := Znb (Zjb HO1.out).2.2 2 p110 q110
    obtain rfl : ad108 = ad110 := (by injection e110)
    (try simp only [show (2 : Int).toNat = 2 from rfl, Nat.reduceMul, Nat.reduceEqDiff, Go.Addr.add, ↓reduceIte] at hx110_0)
    have qi110 : (2 < l1.length) = True := Zja (by omega)
    (try rw [show ((2 : Int)).toNat = 2 from rfl] at hx110_0)
    replace p110 := Zja p110
    replace q110 := Zja q110
    go_wp2
    go_meet
    case rel => exact ⟨_, (true), (by first | rfl | (simp; done) | (simp [*]; done)), H', ⟨by first | omega | exact Zra _⟩, ⟨vq HO1.out⟩, ⟨kq BK101.out⟩, ⟨bq⟩⟩
   rw [if_neg c15] at H
   have c15b0 : ((rd l1 1) == 83) = false := beq_eq_false_iff_ne.mpr c15
   have c15b1 : ((rd l1 1) != 83) = true := bne_iff_ne.mpr c15
   have H' := Zma H
   clear H
   have p108 : 0 ≤ (0 : Int) := (by omega)
   have q108 : 0 < (l1.length : Int) := Zg (by first | (with_reducible assumption) | assumption)
   obtain ⟨ad108, e108, hx108_0⟩ := Znb (Zjb HO1.out).2.2 0 p108 q108
   cases e108
   have qi108 : (0 < l1.length) = True := Zja (by omega)
   (try rw [show ((0 : Int)).toNat = 0 from rfl] at hx108_0)
   (try rw [Addr.add_zero'] at hx108_0)
   replace p108 := Zja p108
   replace q108 := Zja q108
   have p109 : 0 ≤ (1 : Int) := (by omega)
   have q109 : 1 < (l1.length : Int) := Zg (by first | (with_reducible assumption) | assumption)
   obtain ⟨ad109, e109, hx109_0⟩ := Znb (Zjb HO1.out).2.2 1 p109 q109
   obtain rfl : ad108 = ad109 := (by injection e109)
   (try simp only [show (1 : Int).toNat = 1 from rfl, Nat.reduceMul, Nat.reduceEqDiff, Go.Addr.add, ↓reduceIte] at hx109_0)
   have qi109 : (1 < l1.length) = True := Zja (by omega)
   (try rw [show ((1 : Int)).toNat = 1 from rfl] at hx109_0)
   replace p109 := Zja p109
   replace q109 := Zja q109
   go_wp2
   go_meet
   case rel => exact ⟨_, (true), (by first | rfl | (simp; done) | (simp [*]; done)), H', ⟨by first | omega | exact Zra _⟩, ⟨vq HO1.out⟩, ⟨kq BK101.out⟩, ⟨bq⟩⟩
  rw [if_neg c13] at H
  have c13b0 : ((rd l1 0) == 80) = false := beq_eq_false_iff_ne.mpr c13
  have c13b1 : ((rd l1 0) != 80) = true := bne_iff_ne.mpr c13
  have H' := Zma H
  clear H
  have p108 : 0 ≤ (0 : Int) := (by omega)
  have q108 : 0 < (l1.length : Int) := Zg (by first | (with_reducible assumption) | assumption)
  obtain ⟨ad108, e108, hx108_0⟩ := Znb (Zjb HO1.out).2.2 0 p108 q108
  cases e108
  have qi108 : (0 < l1.length) = True := Zja (by omega)
  (try rw [show ((0 : Int)).toNat = 0 from rfl] at hx108_0)
  (try rw [Addr.add_zero'] at hx108_0)
  replace p108 := Zja p108
  replace q108 := Zja q108
  go_wp2
  go_meet
  case rel => exact ⟨_, (true), (by first | rfl | (simp; done) | (simp [*]; done)), H', ⟨by first | omega | exact Zra _⟩, ⟨vq HO1.out⟩, ⟨kq BK101.out⟩, ⟨bq⟩⟩
 case rest =>
  clear HC9
  try clear c1
  try clear p1
  try clear q1
  try clear hx1
  try clear qi1
  try clear c2
  try clear p2
  try clear c3
  try clear c3b0
  try clear c3b1
  try clear c5
  try clear c6
  try clear c6b0
  try clear c6b1
  try clear c7
  try clear c7b0
  try clear c7b1
  try clear p10
  try clear q10
  try clear hx10
  try clear qi10
  try clear c11
  try clear p11
  try clear q11
  try clear hx11
  try clear qi11
  try clear c12
  try clear c12b0
  try clear c12b1
  try clear c13
  try clear c13b0
  try clear c13b1
  try clear c14
  try clear c14b0
  try clear c14b1
  try clear c15
  try clear c15b0
  try clear c15b1
  try clear c16
  try clear c16b0
  try clear c16b1
  try clear c17
  try clear c17b0
  try clear c17b1
  try clear c18
  try clear c18b0
  try clear c18b1
  try clear c19
  try clear c19b0
  try clear c19b1
  try clear c20
  try clear c20b0
  try clear c20b1
  try clear c21
  try clear c21b0
  try clear hcz5_0
  try clear hcz5_1
  try clear hcz5_2
  try clear hcz5_3
  try clear hcz5_4
  try clear hcz5_5
  try clear hcz5_6
  try clear hfz5_0
  try clear hfz5_1
  try clear hfz5_2
  try clear hfz5_3
  try clear hfz5_4
  try clear hfz5_5
  try clear hfz5_6
  try clear hx108_0
  try clear hx109_0
  try clear hx110_0
  try clear hx111_0
  try clear hx112_0
  try clear p108
  try clear p109
  try clear p110
  try clear p111
  try clear p112
  try clear q108
  try clear q109
  try clear q11
  try clear q110
  try clear q111
  try clear q112
  obtain ⟨kq, x52_8, rfl, HA, HJ8, HO_1, BK101, HB⟩ := hcut
  cases kq with
  | zero => exact absurd HA.out (by simp [psalteryref18_Read_raw.j0])
  | succ kj8 =>
   have H := HA.out
   clear HA
   simp only [psalteryref18_Read_raw.j0] at H
   by_cases c22 : x52_8 = true
   ·subst c22
    have H1 : (some (0, 0, false, false, false, false, ([] : List (List Int)), 0, 2)) = some (r1, r2, r3, r4, r5, r6, r7, r8, r9) := by rw [if_pos rfl] at H; exact H
    clear H
    have H := H1
    clear H1
    simp only [Zib, Zhb] at H
    obtain ⟨rfl, rfl, rfl, rfl, rfl, rfl, rfl, rfl, rfl⟩ := H
    obtain ⟨hcz23_0, hcz23_1, hcz23_2, hcz23_3, hcz23_4, hcz23_5, hcz23_6, hfz23_0, hfz23_1, hfz23_2, hfz23_3, hfz23_4, hfz23_5, hfz23_6⟩ := blk7 BK101.out
    go_wp2
    refine bodyPost_ret (Zta rfl _ _ gb101 50 #[.int .i64 0, .int .i64 0, .bool false, .bool false, .bool false, .bool false, .slice none 0 0] (0, 0) _ rfl (by refine kq ?_; exact put7 (kq BK101.out)) Try.underlying50 rfl (by kernel_rfl)) rfl ?_
    exact ⟨_, by first | rfl | (simp [errW_none, errW_some] <;> rfl) | (simp [*, errW_none, errW_some] <;> rfl), by first | exact Kd.S_nil _ _ _ _ _ | exact Kd.N_nil _ _ _ _ _ | exact Kd.V_nil _ _ _ _ _ | exact Kd.Q_nil _ _ _ _ _ | exact Kd.R_nil _ _ _ _ _, bq⟩
   replace c22 := Bool.eq_false_iff.mpr c22
   subst c22
   have H1 : (if 21 < (l1.length : Int) then (if (l1.length : Int) < (wrap64 (22 + (wrap64 (rd l1 21)))) then (some (0, 0, false, false, false, false, ([] : List (List Int)), 0, 4)) else (if 13 ≤ 17 then (if 17 ≤ (l1.length : Int) then ((psalteryref18_value.f ((l1.take 17).drop 13)).bind fun t119 => (if 4 < (l1.length : Int) then (psalteryref18_Read_raw.l0 kj8 l0 l1 (wrap64 (rd l1 21)) (wrap64 (22 + (wrap64 (rd l1 21)))) 0 0 (wrap64 (t119)) (wrap64 (t107)) ((((Int.tdiv (rd l1 4) 2) % 256) % 2) == 1) (((Int.tdiv (rd l1 4) 4) % 256) == 1) ((Int.tmod (rd l1 4) 2) == 1) false ([] : List (List Int))) else (none))) else (none)) else (none))) else (none)) = some (r1, r2, r3, r4, r5, r6, r7, r8, r9) := by rw [if_neg (show ¬ (false = true) by decide)] at H; exact H
   clear H
   have H := H1
   clear H1
   by_cases c24 : 21 < (l1.length : Int)
   rotate_left
   ·rw [if_neg c24] at H
    exact absurd H (by simp)
   rw [if_pos c24] at H
   have c24b0 : decide (21 < (l1.length : Int)) = true := Zn c24
   have c24b1 : decide (21 < l1.length) = true := Zn (by omega)
   clear c24
   by_cases c25 : (l1.length : Int) < (wrap64 (22 + (wrap64 (rd l1 21))))
   ·rw [if_pos c25] at H
    have c25b0 : decide ((l1.length : Int) < (wrap64 (22 + (wrap64 (rd l1 21))))) = true := Zn c25
    clear c25
    simp only [Zib, Zhb] at H
    obtain ⟨rfl, rfl, rfl, rfl, rfl, rfl, rfl, rfl, rfl⟩ := H
    have p113 : 0 ≤ (21 : Int) := (by omega)
    have q113 : 21 < (l1.length : Int) := Zg (by first | (with_reducible assumption) | assumption)
    obtain ⟨ad113, e113, hx113_0⟩ := Znb (Zjb HO_1.out).2.2 21 p113 q113
    cases e113
    (try simp only [show (21 : Int).toNat = 21 from rfl, Nat.reduceMul, Nat.reduceEqDiff, Go.Addr.add, ↓reduceIte] at hx113_0)
    have qi113 : (21 < l1.length) = True := Zja (by omega)
    (try rw [show ((21 : Int)).toNat = 21 from rfl] at hx113_0)
    replace p113 := Zja p113
    replace q113 := Zja q113
    obtain ⟨hcz26_0, hcz26_1, hcz26_2, hcz26_3, hcz26_4, hcz26_5, hcz26_6, hfz26_0, hfz26_1, hfz26_2, hfz26_3, hfz26_4, hfz26_5, hfz26_6⟩ := blk7 BK101.out
    go_wp2
    refine bodyPost_ret (Zta rfl _ _ gb101 50 #[.int .i64 0, .int .i64 0, .bool false, .bool false, .bool false, .bool false, .slice none 0 0] (0, 0) _ rfl (by refine kq ?_; exact put7 (kq BK101.out)) Try.underlying50 rfl (by kernel_rfl)) rfl ?_
    exact ⟨_, by first | rfl | (simp [errW_none, errW_some] <;> rfl) | (simp [*, errW_none, errW_some] <;> rfl), by first | exact Kd.S_nil _ _ _ _ _ | exact Kd.N_nil _ _ _ _ _ | exact Kd.V_nil _ _ _ _ _ | exact Kd.Q_nil _ _ _ _ _ | exact Kd.R_nil _ _ _ _ _, bq⟩
   rw [if_neg c25] at H
   have c25b0 : decide ((l1.length : Int) < (wrap64 (22 + (wrap64 (rd l1 21))))) = false := Zna c25
   clear c25
   by_cases c27 : 13 ≤ 17
   rotate_left
   ·rw [if_neg c27] at H
    exact absurd H (by simp)
   rw [if_pos c27] at H
   have c27b0 := Zja c27
   have c27b1 : decide (13 ≤ 17) = true := Zn c27
   clear c27
   by_cases c28 : 17 ≤ (l1.length : Int)
   rotate_left
   ·rw [if_neg c28] at H
    exact absurd H (by simp)
   rw [if_pos c28] at H
   have c28b0 := Zja c28
   have c28b1 : decide (17 ≤ (l1.length : Int)) = true := Zn c28
   clear c28
   obtain ⟨y114, hy114⟩ : ∃ y_ : List Int, y_ = ((l1.take 17).drop 13) := ⟨_, rfl⟩
   replace H : ((psalteryref18_value.f y114).bind fun t119 => (if 4 < (l1.length : Int) then (psalteryref18_Read_raw.l0 kj8 l0 l1 (wrap64 (rd l1 21)) (wrap64 (22 + (wrap64 (rd l1 21)))) 0 0 (wrap64 (t119)) (wrap64 (t107)) ((((Int.tdiv (rd l1 4) 2) % 256) % 2) == 1) (((Int.tdiv (rd l1 4) 4) % 256) == 1) ((Int.tmod (rd l1 4) 2) == 1) false ([] : List (List Int))) else (none))) = some (r1, r2, r3, r4, r5, r6, r7, r8, r9) := by first | (rw [hy114]; with_reducible exact H) | (have H2_ := (Zsa _ _).symm.trans H; rw [hy114]; with_reducible exact H2_) | (have H2_ := (Zsa _ _).symm.trans H; with_reducible exact H2_) | with_reducible exact H | (rw [hy114]; exact H) | exact H
   have Ny114 := Zma hy114
   clear hy114
   replace H := Option.bind_eq_some_iff.mp H
   obtain ⟨t119, A290, H⟩ := H
   replace H : (if 4 < (l1.length : Int) then (psalteryref18_Read_raw.l0 kj8 l0 l1 (wrap64 (rd l1 21)) (wrap64 (22 + (wrap64 (rd l1 21)))) 0 0 (wrap64 (t119)) (wrap64 (t107)) ((((Int.tdiv (rd l1 4) 2) % 256) % 2) == 1) (((Int.tdiv (rd l1 4) 4) % 256) == 1) ((Int.tmod (rd l1 4) 2) == 1) false ([] : List (List Int))) else (none)) = some (r1, r2, r3, r4, r5, r6, r7, r8, r9) := H
   have A29 := Zma A290
   clear A290
   by_cases c30 : 4 < (l1.length : Int)
   rotate_left
   ·rw [if_neg c30] at H
    exact absurd H (by simp)
   rw [if_pos c30] at H
   have c30b0 : decide (4 < (l1.length : Int)) = true := Zn c30
   have c30b1 : decide (4 < l1.length) = true := Zn (by omega)
   clear c30
   have H' := Zma H
   clear H
   have p113 : 0 ≤ (21 : Int) := (by omega)
   have q113 : 21 < (l1.length : Int) := Zg (by first | (with_reducible assumption) | assumption)
   obtain ⟨ad113, e113, hx113_0⟩ := Znb (Zjb HO_1.out).2.2 21 p113 q113
   cases e113
   (try simp only [show (21 : Int).toNat = 21 from rfl, Nat.reduceMul, Nat.reduceEqDiff, Go.Addr.add, ↓reduceIte] at hx113_0)
   have qi113 : (21 < l1.length) = True := Zja (by omega)
   (try rw [show ((21 : Int)).toNat = 21 from rfl] at hx113_0)
   replace p113 := Zja p113
   replace q113 := Zja q113
   try go_wp2
   have n0_ := Zma (Zw HO_1.out)
   have n1_ := Zma (Zl BK101.out)
   have n2_ := Zma (Zla HB.out)
   clear HO_1 BK101 HB; have HO_1 := n0_; have BK101 := n1_; have HB := n2_; clear n0_ n1_ n2_
   have q32 : (17 : Int) ≤ ((l1.length : Int) : Int) := Zg (by first | (with_reducible assumption) | assumption)
   obtain ⟨i032, hi032, _, hsz32, _⟩ := info_parts info5
   have hroom32 : l1.length ≤ c1 := (Zjb HO_1.out).2.1
   have hC32 : Kd.F (Kd.int .u8) _ _ (some ad113) l1.length l1 := (Kd.V_at (base := w.heap.size) HO_1.out).2.2
   have ql32 : (13 : Int) ≤ (17 : Int) := (by omega)
   have hcut32 := cut_mid (P := Try.prog) 28 5 .i64 .i64 Try.underlying28 hi032 1 hsz32 (some ad113) l1.length c1 13 17 (by omega) ql32 q32 hroom32
   have hr32 := Zmb (lo := (13 : Int).toNat) (hi := (17 : Int).toNat) (c := c1) hC32 (by omega) (by omega) hroom32
   obtain ⟨A32, hA32⟩ : ∃ A1_, A1_ = (if c1 = (13 : Int).toNat then (some ad113) else ((some ad113) : Option Addr).map (·.add ((13 : Int).toNat * 1))) := ⟨_, rfl⟩
   obtain ⟨c32, hc32⟩ : ∃ c1_, c1_ = c1 - (13 : Int).toNat := ⟨_, rfl⟩
   have hy32 : y114.length = (17 : Int).toNat - (13 : Int).toNat := (by rw [Ny114.out, Zha, Zga] <;> omega)
   rw [show ((l1).take (17 : Int).toNat).drop (13 : Int).toNat = y114 from Ny114.out.symm] at hr32
   replace hr32 : Kd.F (Kd.int .u8) _ _ A32 y114.length y114 := (by rw [hA32]; exact hr32)
   rw [← hy32, ← hA32, ← hc32] at hcut32
   have HO118 := Zma (show Kd.V (Kd.int .u8) 5 _ w.heap.size _ (.slice A32 y114.length c32) y114 from Kd.V_mk (by rw [hy32, hc32]; exact Nat.sub_le_sub_right (Nat.le_trans (by omega) hroom32) _) hr32)
   have HC118 := Zma (show y114.length ≤ c32 from by rw [hy32, hc32]; exact Nat.sub_le_sub_right (Nat.le_trans (by omega) hroom32) _)
   clear hr32 hC32 hroom32 hi032 hsz32 hc32
   have KY32 := Zma hy32
   have KA32 := Zma hA32
   clear hy32 hA32
   replace q32 := Zja q32
   have p120 : 0 ≤ (4 : Int) := (by omega)
   have q120 : 4 < (l1.length : Int) := Zg (by first | (with_reducible assumption) | assumption)
   obtain ⟨ad120, e120, hx120_0⟩ := Znb (Zjb HO_1.out).2.2 4 p120 q120
   obtain rfl : ad113 = ad120 := (by injection e120)
   (try simp only [show (4 : Int).toNat = 4 from rfl, Nat.reduceMul, Nat.reduceEqDiff, Go.Addr.add, ↓reduceIte] at hx120_0)
   have qi120 : (4 < l1.length) = True := Zja (by omega)
   (try rw [show ((4 : Int)).toNat = 4 from rfl] at hx120_0)
   replace p120 := Zja p120
   replace q120 := Zja q120
   have p121 : 0 ≤ (4 : Int) := (by omega)
   have q121 : 4 < (l1.length : Int) := Zg (by first | (with_reducible assumption) | assumption)
   obtain ⟨ad121, e121, hx121_0⟩ := Znb (Zjb HO_1.out).2.2 4 p121 q121
   obtain rfl : ad113 = ad121 := (by injection e121)
   (try simp only [show (4 : Int).toNat = 4 from rfl, Nat.reduceMul, Nat.reduceEqDiff, Go.Addr.add, ↓reduceIte] at hx121_0)
   have qi121 : (4 < l1.length) = True := Zja (by omega)
   (try rw [show ((4 : Int)).toNat = 4 from rfl] at hx121_0)
   replace p121 := Zja p121
   replace q121 := Zja q121
   have p122 : 0 ≤ (4 : Int) := (by omega)
   have q122 : 4 < (l1.length : Int) := Zg (by first | (with_reducible assumption) | assumption)
   obtain ⟨ad122, e122, hx122_0⟩ := Znb (Zjb HO_1.out).2.2 4 p122 q122
   obtain rfl : ad113 = ad122 := (by injection e122)
   (try simp only [show (4 : Int).toNat = 4 from rfl, Nat.reduceMul, Nat.reduceEqDiff, Go.Addr.add, ↓reduceIte] at hx122_0)
   have qi122 : (4 < l1.length) = True := Zja (by omega)
   (try rw [show ((4 : Int)).toNat = 4 from rfl] at hx122_0)
   replace p122 := Zja p122
   replace q122 := Zja q122
   refine start_ (n := 25) (S := fun w' => w'.cell? ⟨ad113.block, ad113.off + 4, none⟩ = some (.int .u8 (rd l1 4)) ∧ w'.cell? ⟨ad113.block, ad113.off + 4, none⟩ = some (.int .u8 (rd l1 4)) ∧ w'.cell? ⟨ad113.block, ad113.off + 4, none⟩ = some (.int .u8 (rd l1 4))) (ds := []) #[ZF,ZF,ZF,ZF,ZF,ZF,ZF,ZF,ZF,ZF,ZF,ZF,ZF,ZF,ZF,ZF,ZF,ZF,ZF,ZF,ZF,ZF,ZF,ZF,ZF] (by kernel_rfl) rfl rfl ⟨hx120_0, hx121_0, hx122_0⟩ (fun hHeld => ?_); refine with_tabW psalteryref18_Read_raw.tab9 psalteryref18_Read_raw.bits9 (fun HT_ HW_ => ?_)
   generalize wc.drew = w31 at HO_1 BK101 HB HO118 hx120_0 hx121_0 hx122_0 hHeld ⊢
   refine p1 HT_ 0 64 ?_
   refine p1 HT_ 1 65 ?_
   refine p1 HT_ 4 68 ?_
   refine p1 HT_ 5 69 ?_
   refine p1 HT_ 6 70 ?_
   refine p1 HT_ 7 71 ?_
   refine p1 HT_ 11 75 ?_
   refine p1 HT_ 12 76 ?_
   refine p1 HT_ 17 81 ?_
   refine p1 HT_ 18 82 ?_
   refine p2 HT_ HW_ hHeld 8 72 ?_
   refine p1 HT_ 9 73 ?_
   refine p1 HT_ 10 74 ?_
   refine p2 HT_ HW_ hHeld 13 77 ?_
   refine p1 HT_ 14 78 ?_
   refine p1 HT_ 15 79 ?_
   refine p1 HT_ 16 80 ?_
   refine p2 HT_ HW_ hHeld 19 83 ?_
   refine p1 HT_ 20 84 ?_
   refine p1 HT_ 21 85 ?_
   refine join_ (σ := Nat) 1 #[ZT,ZT,ZT,ZT,ZT,ZT,ZT,ZT,ZT,ZT,ZT,ZT,ZT,ZT,ZT,ZT,ZT,ZT,ZT,ZT,ZT,ZT,ZT,ZT,ZF] (fun s_ => [(66, .int .u64 t119), (9, .pointer (some ⟨s_, 0, none⟩)), (67, .int .i64 (wrap64 (t119))), (86, .agg #[.int .i64 (wrap64 (t119)), .int .i64 (wrap64 (t107)), .bool ((((Int.tdiv (rd l1 4) 2) % 256) % 2) == 1), .bool (((Int.tdiv (rd l1 4) 4) % 256) == 1), .bool ((Int.tmod (rd l1 4) 2) == 1), .bool false, .slice none 0 0])]) (fun s_ w' => (w'.cell? ⟨ad113.block, ad113.off + 4, none⟩ = some (.int .u8 (rd l1 4)) ∧ w'.cell? ⟨ad113.block, ad113.off + 4, none⟩ = some (.int .u8 (rd l1 4)) ∧ w'.cell? ⟨ad113.block, ad113.off + 4, none⟩ = some (.int .u8 (rd l1 4))) ∧ (Kd.V (Kd.int .u8) 5 w' w.heap.size (fun k_ => (P1_ k_ ∨ w.heap.size ≤ k_) ∧ k_ ≠ gb101 ∧ k_ ≠ s_) (.slice A32 y114.length c32) y114) ∧ (Kd.V (Kd.int .u8) 5 w' w.heap.size (fun k_ => (P1_ k_ ∨ w.heap.size ≤ k_) ∧ k_ ≠ gb101 ∧ k_ ≠ s_) (.slice (some ad113) l1.length c1) l1) ∧ (w'.heap[gb101]? = some (.cells #[.int .i64 0, .int .i64 0, .bool false, .bool false, .bool false, .bool false, .slice none 0 0] 50 (0, 0))) ∧ (w'.heap[s_]? = some (.cells #[.int .i64 0, .int .i64 0, .bool false, .bool false, .bool false, .bool false, .slice none 0 0] 50 (0, 0))) ∧ (w.heap.size ≤ s_) ∧ (w.heap.size ≤ s_) ∧ (gb101 ≠ s_) ∧ (s_ ≠ gb101) ∧ (Below w.heap.size w w')) ?_ ?_
   rotate_left
   ·intro hCont
    refine two_ (i := 2) (j := 23) (Ni := some 66) (Nj := some 9) #[ZT,ZT,ZT,ZF,ZT,ZT,ZT,ZT,ZT,ZT,ZT,ZT,ZT,ZT,ZT,ZT,ZT,ZT,ZT,ZT,ZT,ZT,ZF,ZF,ZF] #[ZT,ZT,ZF,ZF,ZT,ZT,ZT,ZT,ZT,ZT,ZT,ZT,ZT,ZT,ZT,ZT,ZT,ZT,ZT,ZT,ZT,ZT,ZF,ZT,ZF] rfl rfl rfl rfl (two_of HT_.out (by kernel_rfl)) (by decide) (by decide) (fun K hK => ?_) (fun K hK => ?_)
    ·skip
     refine goes_ Try.func78 (by kernel_rfl) rfl #[.slice A32 y114.length c32] (by rfl) rfl rfl (by (try simp only [Zdb, Zeb, Zfb]); first | done | rfl | (simp only [Zha, Zga]; rfl)) ?_
     with_reducible refine (psalteryref18_value.calls _ _ y114 t119 _ ?side1 ?side2 A29.out).mono ?_
     (case side1 => exact cq ((Zjb HO118.out).2.2))
     (case side2 => exact (Zjb HO118.out).2.1)
     rintro e w' ⟨rfl, ⟨nd, rfl⟩⟩
     refine ⟨_, rfl, ?_⟩
     refine hK.out _ _ ⟨hHeld.1, hHeld.2.1, hHeld.2.2⟩ (fun hHeld => ?_)
     clear hK K
     refine n1 66 ?_
     refine p1 HT_ 3 67 ?_
     refine p1 HT_ 22 86 ?_
     refine o1 HT_ 23 (some 9) (fun K hK => ?_)
     refine box_step ?hg (N := 9) ?hd (cs := #[.int .i64 0, .int .i64 0, .bool false, .bool false, .bool false, .bool false, .slice none 0 0]) (t := 50) ?hr ?_; (case hd => rfl); (case hg => rfl); (case hr => first | (go_simp; done) | (go_simp; rfl))
     intro gb123 hg w33 hbox hb
     have HS0_ := (hb.cell (Zh _ _ (hHeld.1))).trans (hHeld.1)
     have HS1_ := (hb.cell (Zh _ _ (hHeld.2.1))).trans (hHeld.2.1)
     have HS2_ := (hb.cell (Zh _ _ (hHeld.2.2))).trans (hHeld.2.2)
     have n0_ := Zma (Zya (Kd.V_elderB (vq HO_1.out) gb123 (Nat.le_of_eq hg.symm)) hb)
     have n1_ := Zma (Zya (Kd.V_elderB (vq HO118.out) gb123 (Nat.le_of_eq hg.symm)) hb)
     have n2_ := Zma (Zab (g := gb101) (o := .cells #[.int .i64 0, .int .i64 0, .bool false, .bool false, .bool false, .bool false, .slice none 0 0] 50 (0, 0)) (kq BK101.out) hb)
     have n3_ := Zma (Zoa bq hb)
     have n4_ := Zma (hbox)
     have n5_ := Zma ((by rw [hg]; exact (Zfa bq) : w.heap.size ≤ gb123))
     have n6_ := Zma ((by rw [hg]; exact (Zfa bq) : w.heap.size ≤ gb123))
     have n7_ := Zma ((by rw [hg]; exact Zka (blk_lt (g := gb101) (o := .cells #[.int .i64 0, .int .i64 0, .bool false, .bool false, .bool false, .bool false, .slice none 0 0] 50 (0, 0)) (kq BK101.out)) : gb101 ≠ gb123))
     have n8_ := Zma ((by rw [hg]; exact Nat.ne_of_gt (blk_lt (g := gb101) (o := .cells #[.int .i64 0, .int .i64 0, .bool false, .bool false, .bool false, .bool false, .slice none 0 0] 50 (0, 0)) (kq BK101.out)) : gb123 ≠ gb101))
     clear HO_1 HO118 BK101 HB; have HO_1 := n0_; have HO118 := n1_; have BK101 := n2_; have HB := n3_; have BK123 := n4_; have GW123 := n5_; have GE123 := n6_; have NB101_123 := n7_; have NB123_101 := n8_; clear n0_ n1_ n2_ n3_ n4_ n5_ n6_ n7_ n8_ hb hbox hg
     refine hK.out _ _ ⟨HS0_, HS1_, HS2_⟩ (fun hHeld => ?_)
     clear hK K
     refine n1 9 ?_
     exact norm_ (by simp only [putAll, Act.put, Za, Zb, Zc]; try simp only [ref18_tm, ref18_u8]) (hCont (gb123) _ ⟨hHeld, (by refine vq ?_; exact Zwa HO118.out (fun _ hk => ⟨hk.1.1, ⟨hk.1.2, hk.2⟩⟩)), (by refine vq ?_; exact Zwa HO_1.out (fun _ hk => ⟨hk.1.1, ⟨hk.1.2, hk.2⟩⟩)), (kq BK101.out), (kq BK123.out), GW123.out, GE123.out, NB101_123.out, NB123_101.out, bq⟩)
    refine box_step ?hg (N := 9) ?hd (cs := #[.int .i64 0, .int .i64 0, .bool false, .bool false, .bool false, .bool false, .slice none 0 0]) (t := 50) ?hr ?_; (case hd => rfl); (case hg => rfl); (case hr => first | (go_simp; done) | (go_simp; rfl))
    intro gb123 hg w33 hbox hb
    have HS0_ := (hb.cell (Zh _ _ (hHeld.1))).trans (hHeld.1)
    have HS1_ := (hb.cell (Zh _ _ (hHeld.2.1))).trans (hHeld.2.1)
    have HS2_ := (hb.cell (Zh _ _ (hHeld.2.2))).trans (hHeld.2.2)
    have n0_ := Zma (Zya (Kd.V_elderB (vq HO_1.out) gb123 (Nat.le_of_eq hg.symm)) hb)
    have n1_ := Zma (Zya (Kd.V_elderB (vq HO118.out) gb123 (Nat.le_of_eq hg.symm)) hb)
    have n2_ := Zma (Zab (g := gb101) (o := .cells #[.int .i64 0, .int .i64 0, .bool false, .bool false, .bool false, .bool false, .slice none 0 0] 50 (0, 0)) (kq BK101.out) hb)
    have n3_ := Zma (Zoa bq hb)
    have n4_ := Zma (hbox)
    have n5_ := Zma ((by rw [hg]; exact (Zfa bq) : w.heap.size ≤ gb123))
    have n6_ := Zma ((by rw [hg]; exact (Zfa bq) : w.heap.size ≤ gb123))
    have n7_ := Zma ((by rw [hg]; exact Zka (blk_lt (g := gb101) (o := .cells #[.int .i64 0, .int .i64 0, .bool false, .bool false, .bool false, .bool false, .slice none 0 0] 50 (0, 0)) (kq BK101.out)) : gb101 ≠ gb123))
    have n8_ := Zma ((by rw [hg]; exact Nat.ne_of_gt (blk_lt (g := gb101) (o := .cells #[.int .i64 0, .int .i64 0, .bool false, .bool false, .bool false, .bool false, .slice none 0 0] 50 (0, 0)) (kq BK101.out)) : gb123 ≠ gb101))
    clear HO_1 HO118 BK101 HB; have HO_1 := n0_; have HO118 := n1_; have BK101 := n2_; have HB := n3_; have BK123 := n4_; have GW123 := n5_; have GE123 := n6_; have NB101_123 := n7_; have NB123_101 := n8_; clear n0_ n1_ n2_ n3_ n4_ n5_ n6_ n7_ n8_ hb hbox hg
    refine hK.out _ _ ⟨HS0_, HS1_, HS2_⟩ (fun hHeld => ?_)
    clear hK K
    refine n1 9 ?_
    refine o1 HT_ 2 (some 66) (fun K hK => ?_)
    refine goes_ Try.func78 (by kernel_rfl) rfl #[.slice A32 y114.length c32] (by rfl) rfl rfl (by (try simp only [Zdb, Zeb, Zfb]); first | done | rfl | (simp only [Zha, Zga]; rfl)) ?_
    with_reducible refine (psalteryref18_value.calls _ _ y114 t119 _ ?side1 ?side2 A29.out).mono ?_
    (case side1 => exact cq ((Zjb HO118.out).2.2))
    (case side2 => exact (Zjb HO118.out).2.1)
    rintro e w' ⟨rfl, ⟨nd, rfl⟩⟩
    refine ⟨_, rfl, ?_⟩
    refine hK.out _ _ ⟨hHeld.1, hHeld.2.1, hHeld.2.2⟩ (fun hHeld => ?_)
    clear hK K
    refine n1 66 ?_
    refine p1 HT_ 3 67 ?_
    refine p1 HT_ 22 86 ?_
    exact norm_ (by simp only [putAll, Act.put, Za, Zb, Zc]; try simp only [ref18_tm, ref18_u8]) (hCont (gb123) _ ⟨hHeld, (by refine vq ?_; exact Zwa HO118.out (fun _ hk => ⟨hk.1.1, ⟨hk.1.2, hk.2⟩⟩)), (by refine vq ?_; exact Zwa HO_1.out (fun _ hk => ⟨hk.1.1, ⟨hk.1.2, hk.2⟩⟩)), (kq BK101.out), (kq BK123.out), GW123.out, GE123.out, NB101_123.out, NB123_101.out, bq⟩)
   rintro gb123 w34 ⟨hS_, h0_, h1_, h2_, h3_, h4_, h5_, h6_, h7_, h8_⟩
   obtain ⟨vfi, hvfi⟩ : ∃ v_ : Bool, v_ = ((((Int.tdiv (rd l1 4) 2) % 256) % 2) == 1) := ⟨_, rfl⟩
   rw [← hvfi] at H' ⊢
   clear hvfi
   obtain ⟨vla, hvla⟩ : ∃ v_ : Bool, v_ = (((Int.tdiv (rd l1 4) 4) % 256) == 1) := ⟨_, rfl⟩
   rw [← hvla] at H' ⊢
   clear hvla
   obtain ⟨vco, hvco⟩ : ∃ v_ : Bool, v_ = ((Int.tmod (rd l1 4) 2) == 1) := ⟨_, rfl⟩
   rw [← hvco] at H' ⊢
   clear hvco
   generalize IntKind.u8.wrap ((rd l1 4).tdiv 2) = z1_
   generalize IntKind.u8.wrap ((rd l1 4).tdiv 4) = z2_
   have n0_ : Aside0 (Kd.V (Kd.int .u8) 5 w34 w.heap.size (fun k_ => (P1_ k_ ∨ w.heap.size ≤ k_) ∧ k_ ≠ gb101 ∧ k_ ≠ gb123) (.slice A32 y114.length c32) y114) := ⟨h0_⟩
   have n1_ : Aside0 (Kd.V (Kd.int .u8) 5 w34 w.heap.size (fun k_ => (P1_ k_ ∨ w.heap.size ≤ k_) ∧ k_ ≠ gb101 ∧ k_ ≠ gb123) (.slice (some ad113) l1.length c1) l1) := ⟨h1_⟩
   have n2_ : Aside0 (w34.heap[gb101]? = some (.cells #[.int .i64 0, .int .i64 0, .bool false, .bool false, .bool false, .bool false, .slice none 0 0] 50 (0, 0))) := ⟨h2_⟩
   have n3_ : Aside0 (w34.heap[gb123]? = some (.cells #[.int .i64 0, .int .i64 0, .bool false, .bool false, .bool false, .bool false, .slice none 0 0] 50 (0, 0))) := ⟨h3_⟩
   have n4_ : Aside0 (w.heap.size ≤ gb123) := ⟨h4_⟩
   have n5_ : Aside0 (w.heap.size ≤ gb123) := ⟨h5_⟩
   have n6_ : Aside0 (gb101 ≠ gb123) := ⟨h6_⟩
   have n7_ : Aside0 (gb123 ≠ gb101) := ⟨h7_⟩
   have n8_ : Aside0 (Below w.heap.size w w34) := ⟨h8_⟩
   clear HO_1 BK101 HB h0_ h1_ h2_ h3_ h4_ h5_ h6_ h7_ h8_; have HO118 := n0_; have HO_1 := n1_; have BK101 := n2_; have BK123 := n3_; have GW123 := n4_; have GE123 := n5_; have NB101_123 := n6_; have NB123_101 := n7_; have HB := n8_; clear n0_ n1_ n2_ n3_ n4_ n5_ n6_ n7_ n8_
   have hHeld : w34.cell? ⟨ad113.block, ad113.off + 4, none⟩ = some (.int .u8 (rd l1 4)) ∧ w34.cell? ⟨ad113.block, ad113.off + 4, none⟩ = some (.int .u8 (rd l1 4)) ∧ w34.cell? ⟨ad113.block, ad113.off + 4, none⟩ = some (.int .u8 (rd l1 4)) := hS_
   refine n2 ?_
   refine o1 HT_ 24 none (fun K hK => ?_)
   have hs35 : w34.cell? ⟨gb123, 0, none⟩ = some (.int .i64 0) := (Zd BK123.out 0).trans rfl
   have hfs35 := Zf BK123.out 0
   have hns35_0 := NB101_123.out
   have hms35_0 := NB123_101.out
   have hs36 : w34.cell? ⟨gb123, 1, none⟩ = some (.int .i64 0) := (Zd BK123.out 1).trans rfl
   have hfs36 := Zf BK123.out 1
   have hns36_0 := NB101_123.out
   have hms36_0 := NB123_101.out
   have hs37 : w34.cell? ⟨gb123, 2, none⟩ = some (.bool false) := (Zd BK123.out 2).trans rfl
   have hfs37 := Zf BK123.out 2
   have hns37_0 := NB101_123.out
   have hms37_0 := NB123_101.out
   have hs38 : w34.cell? ⟨gb123, 3, none⟩ = some (.bool false) := (Zd BK123.out 3).trans rfl
   have hfs38 := Zf BK123.out 3
   have hns38_0 := NB101_123.out
   have hms38_0 := NB123_101.out
   have hs39 : w34.cell? ⟨gb123, 4, none⟩ = some (.bool false) := (Zd BK123.out 4).trans rfl
   have hfs39 := Zf BK123.out 4
   have hns39_0 := NB101_123.out
   have hms39_0 := NB123_101.out
   have hs40 : w34.cell? ⟨gb123, 5, none⟩ = some (.bool false) := (Zd BK123.out 5).trans rfl
   have hfs40 := Zf BK123.out 5
   have hns40_0 := NB101_123.out
   have hms40_0 := NB123_101.out
   have hs41 : w34.cell? ⟨gb123, 6, none⟩ = some (.slice none 0 0) := (Zd BK123.out 6).trans rfl
   have hfs41 := Zf BK123.out 6
   have hns41_0 := NB101_123.out
   have hms41_0 := NB123_101.out
   refine skip_ (w1 := ?_) (by rfl) rfl ?_ ?_
   rotate_left
   ·go_simp
    rfl
   refine hK.out _ _ ⟨((Zbb (p := ⟨gb123, _, none⟩) (by first | exact Zpa (V_away8 HO_1.out (Zea (Zqa 4) (Zg (p := 4 < l1.length) (by assumption))) (fun _ hk => hk.2.2)) | (rw [Zia]; exact Zpa (V_away8 HO_1.out (Zea (Zqa 4) (Zg (p := 4 < l1.length) (by assumption))) (fun _ hk => hk.2.2))) | (show (Addr.add _ _).block ≠ _; rw [Zia]; exact Zpa (V_away8 HO_1.out (Zea (Zqa 4) (Zg (p := 4 < l1.length) (by assumption))) (fun _ hk => hk.2.2))) | (dsimp only; exact Zpa (V_away8 HO_1.out (Zea (Zqa 4) (Zg (p := 4 < l1.length) (by assumption))) (fun _ hk => hk.2.2)))) _).trans (((Zbb (p := ⟨gb123, _, none⟩) (by first | exact Zpa (V_away8 HO_1.out (Zea (Zqa 4) (Zg (p := 4 < l1.length) (by assumption))) (fun _ hk => hk.2.2)) | (rw [Zia]; exact Zpa (V_away8 HO_1.out (Zea (Zqa 4) (Zg (p := 4 < l1.length) (by assumption))) (fun _ hk => hk.2.2))) | (show (Addr.add _ _).block ≠ _; rw [Zia]; exact Zpa (V_away8 HO_1.out (Zea (Zqa 4) (Zg (p := 4 < l1.length) (by assumption))) (fun _ hk => hk.2.2))) | (dsimp only; exact Zpa (V_away8 HO_1.out (Zea (Zqa 4) (Zg (p := 4 < l1.length) (by assumption))) (fun _ hk => hk.2.2)))) _).trans (((Zbb (p := ⟨gb123, _, none⟩) (by first | exact Zpa (V_away8 HO_1.out (Zea (Zqa 4) (Zg (p := 4 < l1.length) (by assumption))) (fun _ hk => hk.2.2)) | (rw [Zia]; exact Zpa (V_away8 HO_1.out (Zea (Zqa 4) (Zg (p := 4 < l1.length) (by assumption))) (fun _ hk => hk.2.2))) | (show (Addr.add _ _).block ≠ _; rw [Zia]; exact Zpa (V_away8 HO_1.out (Zea (Zqa 4) (Zg (p := 4 < l1.length) (by assumption))) (fun _ hk => hk.2.2))) | (dsimp only; exact Zpa (V_away8 HO_1.out (Zea (Zqa 4) (Zg (p := 4 < l1.length) (by assumption))) (fun _ hk => hk.2.2)))) _).trans (((Zbb (p := ⟨gb123, _, none⟩) (by first | exact Zpa (V_away8 HO_1.out (Zea (Zqa 4) (Zg (p := 4 < l1.length) (by assumption))) (fun _ hk => hk.2.2)) | (rw [Zia]; exact Zpa (V_away8 HO_1.out (Zea (Zqa 4) (Zg (p := 4 < l1.length) (by assumption))) (fun _ hk => hk.2.2))) | (show (Addr.add _ _).block ≠ _; rw [Zia]; exact Zpa (V_away8 HO_1.out (Zea (Zqa 4) (Zg (p := 4 < l1.length) (by assumption))) (fun _ hk => hk.2.2))) | (dsimp only; exact Zpa (V_away8 HO_1.out (Zea (Zqa 4) (Zg (p := 4 < l1.length) (by assumption))) (fun _ hk => hk.2.2)))) _).trans (((Zbb (p := ⟨gb123, _, none⟩) (by first | exact Zpa (V_away8 HO_1.out (Zea (Zqa 4) (Zg (p := 4 < l1.length) (by assumption))) (fun _ hk => hk.2.2)) | (rw [Zia]; exact Zpa (V_away8 HO_1.out (Zea (Zqa 4) (Zg (p := 4 < l1.length) (by assumption))) (fun _ hk => hk.2.2))) | (show (Addr.add _ _).block ≠ _; rw [Zia]; exact Zpa (V_away8 HO_1.out (Zea (Zqa 4) (Zg (p := 4 < l1.length) (by assumption))) (fun _ hk => hk.2.2))) | (dsimp only; exact Zpa (V_away8 HO_1.out (Zea (Zqa 4) (Zg (p := 4 < l1.length) (by assumption))) (fun _ hk => hk.2.2)))) _).trans (((Zbb (p := ⟨gb123, _, none⟩) (by first | exact Zpa (V_away8 HO_1.out (Zea (Zqa 4) (Zg (p := 4 < l1.length) (by assumption))) (fun _ hk => hk.2.2)) | (rw [Zia]; exact Zpa (V_away8 HO_1.out (Zea (Zqa 4) (Zg (p := 4 < l1.length) (by assumption))) (fun _ hk => hk.2.2))) | (show (Addr.add _ _).block ≠ _; rw [Zia]; exact Zpa (V_away8 HO_1.out (Zea (Zqa 4) (Zg (p := 4 < l1.length) (by assumption))) (fun _ hk => hk.2.2))) | (dsimp only; exact Zpa (V_away8 HO_1.out (Zea (Zqa 4) (Zg (p := 4 < l1.length) (by assumption))) (fun _ hk => hk.2.2)))) _).trans (((Zbb (p := ⟨gb123, _, none⟩) (by first | exact Zpa (V_away8 HO_1.out (Zea (Zqa 4) (Zg (p := 4 < l1.length) (by assumption))) (fun _ hk => hk.2.2)) | (rw [Zia]; exact Zpa (V_away8 HO_1.out (Zea (Zqa 4) (Zg (p := 4 < l1.length) (by assumption))) (fun _ hk => hk.2.2))) | (show (Addr.add _ _).block ≠ _; rw [Zia]; exact Zpa (V_away8 HO_1.out (Zea (Zqa 4) (Zg (p := 4 < l1.length) (by assumption))) (fun _ hk => hk.2.2))) | (dsimp only; exact Zpa (V_away8 HO_1.out (Zea (Zqa 4) (Zg (p := 4 < l1.length) (by assumption))) (fun _ hk => hk.2.2)))) _).trans (hHeld.1)))))))))))))), ((Zbb (p := ⟨gb123, _, none⟩) (by first | exact Zpa (V_away8 HO_1.out (Zea (Zqa 4) (Zg (p := 4 < l1.length) (by assumption))) (fun _ hk => hk.2.2)) | (rw [Zia]; exact Zpa (V_away8 HO_1.out (Zea (Zqa 4) (Zg (p := 4 < l1.length) (by assumption))) (fun _ hk => hk.2.2))) | (show (Addr.add _ _).block ≠ _; rw [Zia]; exact Zpa (V_away8 HO_1.out (Zea (Zqa 4) (Zg (p := 4 < l1.length) (by assumption))) (fun _ hk => hk.2.2))) | (dsimp only; exact Zpa (V_away8 HO_1.out (Zea (Zqa 4) (Zg (p := 4 < l1.length) (by assumption))) (fun _ hk => hk.2.2)))) _).trans (((Zbb (p := ⟨gb123, _, none⟩) (by first | exact Zpa (V_away8 HO_1.out (Zea (Zqa 4) (Zg (p := 4 < l1.length) (by assumption))) (fun _ hk => hk.2.2)) | (rw [Zia]; exact Zpa (V_away8 HO_1.out (Zea (Zqa 4) (Zg (p := 4 < l1.length) (by assumption))) (fun _ hk => hk.2.2))) | (show (Addr.add _ _).block ≠ _; rw [Zia]; exact Zpa (V_away8 HO_1.out (Zea (Zqa 4) (Zg (p := 4 < l1.length) (by assumption))) (fun _ hk => hk.2.2))) | (dsimp only; exact Zpa (V_away8 HO_1.out (Zea (Zqa 4) (Zg (p := 4 < l1.length) (by assumption))) (fun _ hk => hk.2.2)))) _).trans (((Zbb (p := ⟨gb123, _, none⟩) (by first | exact Zpa (V_away8 HO_1.out (Zea (Zqa 4) (Zg (p := 4 < l1.length) (by assumption))) (fun _ hk => hk.2.2)) | (rw [Zia]; exact Zpa (V_away8 HO_1.out (Zea (Zqa 4) (Zg (p := 4 < l1.length) (by assumption))) (fun _ hk => hk.2.2))) | (show (Addr.add _ _).block ≠ _; rw [Zia]; exact Zpa (V_away8 HO_1.out (Zea (Zqa 4) (Zg (p := 4 < l1.length) (by assumption))) (fun _ hk => hk.2.2))) | (dsimp only; exact Zpa (V_away8 HO_1.out (Zea (Zqa 4) (Zg (p := 4 < l1.length) (by assumption))) (fun _ hk => hk.2.2)))) _).trans (((Zbb (p := ⟨gb123, _, none⟩) (by first | exact Zpa (V_away8 HO_1.out (Zea (Zqa 4) (Zg (p := 4 < l1.length) (by assumption))) (fun _ hk => hk.2.2)) | (rw [Zia]; exact Zpa (V_away8 HO_1.out (Zea (Zqa 4) (Zg (p := 4 < l1.length) (by assumption))) (fun _ hk => hk.2.2))) | (show (Addr.add _ _).block ≠ _; rw [Zia]; exact Zpa (V_away8 HO_1.out (Zea (Zqa 4) (Zg (p := 4 < l1.length) (by assumption))) (fun _ hk => hk.2.2))) | (dsimp only; exact Zpa (V_away8 HO_1.out (Zea (Zqa 4) (Zg (p := 4 < l1.length) (by assumption))) (fun _ hk => hk.2.2)))) _).trans (((Zbb (p := ⟨gb123, _, none⟩) (by first | exact Zpa (V_away8 HO_1.out (Zea (Zqa 4) (Zg (p := 4 < l1.length) (by assumption))) (fun _ hk => hk.2.2)) | (rw [Zia]; exact Zpa (V_away8 HO_1.out (Zea (Zqa 4) (Zg (p := 4 < l1.length) (by assumption))) (fun _ hk => hk.2.2))) | (show (Addr.add _ _).block ≠ _; rw [Zia]; exact Zpa (V_away8 HO_1.out (Zea (Zqa 4) (Zg (p := 4 < l1.length) (by assumption))) (fun _ hk => hk.2.2))) | (dsimp only; exact Zpa (V_away8 HO_1.out (Zea (Zqa 4) (Zg (p := 4 < l1.length) (by assumption))) (fun _ hk => hk.2.2)))) _).trans (((Zbb (p := ⟨gb123, _, none⟩) (by first | exact Zpa (V_away8 HO_1.out (Zea (Zqa 4) (Zg (p := 4 < l1.length) (by assumption))) (fun _ hk => hk.2.2)) | (rw [Zia]; exact Zpa (V_away8 HO_1.out (Zea (Zqa 4) (Zg (p := 4 < l1.length) (by assumption))) (fun _ hk => hk.2.2))) | (show (Addr.add _ _).block ≠ _; rw [Zia]; exact Zpa (V_away8 HO_1.out (Zea (Zqa 4) (Zg (p := 4 < l1.length) (by assumption))) (fun _ hk => hk.2.2))) | (dsimp only; exact Zpa (V_away8 HO_1.out (Zea (Zqa 4) (Zg (p := 4 < l1.length) (by assumption))) (fun _ hk => hk.2.2)))) _).trans (((Zbb (p := ⟨gb123, _, none⟩) (by first | exact Zpa (V_away8 HO_1.out (Zea (Zqa 4) (Zg (p := 4 < l1.length) (by assumption))) (fun _ hk => hk.2.2)) | (rw [Zia]; exact Zpa (V_away8 HO_1.out (Zea (Zqa 4) (Zg (p := 4 < l1.length) (by assumption))) (fun _ hk => hk.2.2))) | (show (Addr.add _ _).block ≠ _; rw [Zia]; exact Zpa (V_away8 HO_1.out (Zea (Zqa 4) (Zg (p := 4 < l1.length) (by assumption))) (fun _ hk => hk.2.2))) | (dsimp only; exact Zpa (V_away8 HO_1.out (Zea (Zqa 4) (Zg (p := 4 < l1.length) (by assumption))) (fun _ hk => hk.2.2)))) _).trans (hHeld.2.1)))))))))))))), ((Zbb (p := ⟨gb123, _, none⟩) (by first | exact Zpa (V_away8 HO_1.out (Zea (Zqa 4) (Zg (p := 4 < l1.length) (by assumption))) (fun _ hk => hk.2.2)) | (rw [Zia]; exact Zpa (V_away8 HO_1.out (Zea (Zqa 4) (Zg (p := 4 < l1.length) (by assumption))) (fun _ hk => hk.2.2))) | (show (Addr.add _ _).block ≠ _; rw [Zia]; exact Zpa (V_away8 HO_1.out (Zea (Zqa 4) (Zg (p := 4 < l1.length) (by assumption))) (fun _ hk => hk.2.2))) | (dsimp only; exact Zpa (V_away8 HO_1.out (Zea (Zqa 4) (Zg (p := 4 < l1.length) (by assumption))) (fun _ hk => hk.2.2)))) _).trans (((Zbb (p := ⟨gb123, _, none⟩) (by first | exact Zpa (V_away8 HO_1.out (Zea (Zqa 4) (Zg (p := 4 < l1.length) (by assumption))) (fun _ hk => hk.2.2)) | (rw [Zia]; exact Zpa (V_away8 HO_1.out (Zea (Zqa 4) (Zg (p := 4 < l1.length) (by assumption))) (fun _ hk => hk.2.2))) | (show (Addr.add _ _).block ≠ _; rw [Zia]; exact Zpa (V_away8 HO_1.out (Zea (Zqa 4) (Zg (p := 4 < l1.length) (by assumption))) (fun _ hk => hk.2.2))) | (dsimp only; exact Zpa (V_away8 HO_1.out (Zea (Zqa 4) (Zg (p := 4 < l1.length) (by assumption))) (fun _ hk => hk.2.2)))) _).trans (((Zbb (p := ⟨gb123, _, none⟩) (by first | exact Zpa (V_away8 HO_1.out (Zea (Zqa 4) (Zg (p := 4 < l1.length) (by assumption))) (fun _ hk => hk.2.2)) | (rw [Zia]; exact Zpa (V_away8 HO_1.out (Zea (Zqa 4) (Zg (p := 4 < l1.length) (by assumption))) (fun _ hk => hk.2.2))) | (show (Addr.add _ _).block ≠ _; rw [Zia]; exact Zpa (V_away8 HO_1.out (Zea (Zqa 4) (Zg (p := 4 < l1.length) (by assumption))) (fun _ hk => hk.2.2))) | (dsimp only; exact Zpa (V_away8 HO_1.out (Zea (Zqa 4) (Zg (p := 4 < l1.length) (by assumption))) (fun _ hk => hk.2.2)))) _).trans (((Zbb (p := ⟨gb123, _, none⟩) (by first | exact Zpa (V_away8 HO_1.out (Zea (Zqa 4) (Zg (p := 4 < l1.length) (by assumption))) (fun _ hk => hk.2.2)) | (rw [Zia]; exact Zpa (V_away8 HO_1.out (Zea (Zqa 4) (Zg (p := 4 < l1.length) (by assumption))) (fun _ hk => hk.2.2))) | (show (Addr.add _ _).block ≠ _; rw [Zia]; exact Zpa (V_away8 HO_1.out (Zea (Zqa 4) (Zg (p := 4 < l1.length) (by assumption))) (fun _ hk => hk.2.2))) | (dsimp only; exact Zpa (V_away8 HO_1.out (Zea (Zqa 4) (Zg (p := 4 < l1.length) (by assumption))) (fun _ hk => hk.2.2)))) _).trans (((Zbb (p := ⟨gb123, _, none⟩) (by first | exact Zpa (V_away8 HO_1.out (Zea (Zqa 4) (Zg (p := 4 < l1.length) (by assumption))) (fun _ hk => hk.2.2)) | (rw [Zia]; exact Zpa (V_away8 HO_1.out (Zea (Zqa 4) (Zg (p := 4 < l1.length) (by assumption))) (fun _ hk => hk.2.2))) | (show (Addr.add _ _).block ≠ _; rw [Zia]; exact Zpa (V_away8 HO_1.out (Zea (Zqa 4) (Zg (p := 4 < l1.length) (by assumption))) (fun _ hk => hk.2.2))) | (dsimp only; exact Zpa (V_away8 HO_1.out (Zea (Zqa 4) (Zg (p := 4 < l1.length) (by assumption))) (fun _ hk => hk.2.2)))) _).trans (((Zbb (p := ⟨gb123, _, none⟩) (by first | exact Zpa (V_away8 HO_1.out (Zea (Zqa 4) (Zg (p := 4 < l1.length) (by assumption))) (fun _ hk => hk.2.2)) | (rw [Zia]; exact Zpa (V_away8 HO_1.out (Zea (Zqa 4) (Zg (p := 4 < l1.length) (by assumption))) (fun _ hk => hk.2.2))) | (show (Addr.add _ _).block ≠ _; rw [Zia]; exact Zpa (V_away8 HO_1.out (Zea (Zqa 4) (Zg (p := 4 < l1.length) (by assumption))) (fun _ hk => hk.2.2))) | (dsimp only; exact Zpa (V_away8 HO_1.out (Zea (Zqa 4) (Zg (p := 4 < l1.length) (by assumption))) (fun _ hk => hk.2.2)))) _).trans (((Zbb (p := ⟨gb123, _, none⟩) (by first | exact Zpa (V_away8 HO_1.out (Zea (Zqa 4) (Zg (p := 4 < l1.length) (by assumption))) (fun _ hk => hk.2.2)) | (rw [Zia]; exact Zpa (V_away8 HO_1.out (Zea (Zqa 4) (Zg (p := 4 < l1.length) (by assumption))) (fun _ hk => hk.2.2))) | (show (Addr.add _ _).block ≠ _; rw [Zia]; exact Zpa (V_away8 HO_1.out (Zea (Zqa 4) (Zg (p := 4 < l1.length) (by assumption))) (fun _ hk => hk.2.2))) | (dsimp only; exact Zpa (V_away8 HO_1.out (Zea (Zqa 4) (Zg (p := 4 < l1.length) (by assumption))) (fun _ hk => hk.2.2)))) _).trans (hHeld.2.2))))))))))))))⟩ (fun hHeld => ?_)
   clear hK K
   refine done_ (done_of HT_.out (by kernel_rfl)) ?_
   try go_wp2
   go_loopg [10, 11, 12] kj8 (fun kq v10 v11 v12 w' => ∃ (x10_2 : Int) (x11_2 : Int) (x12_2 : Int) (x102000_2 : Int) (x102001_2 : Int) (x102002_2 : Bool) (x102003_2 : Bool) (x102004_2 : Bool) (x102005_2 : Bool) (x124005_2 : Bool) (x124006_2 : List (List Int)) (u124006 : Value), v10 = .int .i64 x10_2 ∧ v11 = .int .i64 x11_2 ∧ v12 = .int .i64 x12_2 ∧ Aside0 (psalteryref18_Read_raw.l0 kq l0 l1 (wrap64 (rd l1 21)) x10_2 x11_2 x12_2 (wrap64 (t119)) (wrap64 (t107)) vfi vla vco x124005_2 x124006_2 = some (r1, r2, r3, r4, r5, r6, r7, r8, r9)) ∧ Aside0 (kq ≤ kj8) ∧ Aside0 (Kd.V (Kd.int .u8) 5 w' w.heap.size (fun k_ => (P1_ k_ ∨ w.heap.size ≤ k_) ∧ some k_ ≠ (u124006 : Value).ownBlock ∧ k_ ≠ gb101 ∧ k_ ≠ gb123) (.slice (some ad113) l1.length c1) l1) ∧ Aside0 (Kd.N (Kd.slice 5 (Kd.int .u8)) 28 w' w.heap.size (fun k_ => (P1_ k_ ∨ w.heap.size ≤ k_) ∧ k_ ≠ gb101 ∧ k_ ≠ gb123) u124006 x124006_2) ∧ Aside0 (w'.heap[gb101]? = some (.cells #[.int .i64 x102000_2, .int .i64 x102001_2, .bool x102002_2, .bool x102003_2, .bool x102004_2, .bool x102005_2, (.slice none 0 0)] 50 (0, 0))) ∧ Aside0 (w'.heap[gb123]? = some (.cells #[.int .i64 (wrap64 (t119)), .int .i64 (wrap64 (t107)), .bool vfi, .bool vla, .bool vco, .bool x124005_2, u124006] 50 (0, 0))) ∧ Aside0 (Below w.heap.size w w'))
   case atStart => exact ⟨(wrap64 (22 + (wrap64 (rd l1 21)))), (0), (0), (0), (0), (false), (false), (false), (false), (false), (([] : List (List Int))), (.slice none 0 0), (by first | rfl | (simp; done) | (simp [*]; done)), (by first | rfl | (simp; done) | (simp [*]; done)), (by first | rfl | (simp; done) | (simp [*]; done)), H', ⟨Zra _⟩, ⟨by refine vq ?_; exact Zwa (Kd.V_far (p := ⟨gb123, 6, none⟩) (Kd.V_far (p := ⟨gb123, 5, none⟩) (Kd.V_far (p := ⟨gb123, 4, none⟩) (Kd.V_far (p := ⟨gb123, 3, none⟩) (Kd.V_far (p := ⟨gb123, 2, none⟩) (Kd.V_far (p := ⟨gb123, 1, none⟩) (Kd.V_far (p := ⟨gb123, 0, none⟩) (Zwa HO_1.out (fun k_ hk => (⟨hk, hk.2.2⟩ : _ ∧ k_ ≠ gb123))) (fun _ hk => hk.2) (.int .i64 (wrap64 (t119)))) (fun _ hk => hk.2) (.int .i64 (wrap64 (t107)))) (fun _ hk => hk.2) (.bool vfi)) (fun _ hk => hk.2) (.bool vla)) (fun _ hk => hk.2) (.bool vco)) (fun _ hk => hk.2) (.bool false)) (fun _ hk => hk.2) (.slice none 0 0)) (fun _ hk => ⟨hk.1.1, ⟨(by simp [Value.ownBlock]), ⟨hk.1.2.1, hk.1.2.2⟩⟩⟩)⟩, ⟨by first | exact Kd.S_nil _ _ _ _ _ | exact Kd.N_nil _ _ _ _ _ | exact Kd.V_nil _ _ _ _ _ | exact Kd.Q_nil _ _ _ _ _ | exact Kd.R_nil _ _ _ _ _⟩, ⟨by refine kq ?_; refine Zua ?_ NB101_123.out _; refine kq ?_; refine Zua ?_ NB101_123.out _; refine kq ?_; refine Zua ?_ NB101_123.out _; refine kq ?_; refine Zua ?_ NB101_123.out _; refine kq ?_; refine Zua ?_ NB101_123.out _; refine kq ?_; refine Zua ?_ NB101_123.out _; refine kq ?_; refine Zua ?_ NB101_123.out _; refine kq ?_; exact BK101.out⟩, ⟨by refine kq ?_; exact put7 (kq BK123.out)⟩, ⟨bq⟩⟩
   case round =>
    clear H'
    try clear c1
    try clear p1
    try clear q1
    try clear hx1
    try clear qi1
    try clear c2
    try clear p2
    try clear c3
    try clear q3
    try clear p6
    try clear c7
    try clear p10
    try clear q10
    try clear hx10
    try clear p11
    try clear q11
    try clear hx11
    try clear qi11
    try clear c12
    try clear c12b1
    try clear p12
    try clear q12
    try clear hx12
    try clear qi12
    try clear c13
    try clear c13b0
    try clear c13b1
    try clear c14
    try clear c14b0
    try clear c14b1
    try clear c15
    try clear c15b0
    try clear c15b1
    try clear c16
    try clear c16b0
    try clear c16b1
    try clear c17
    try clear c17b0
    try clear c17b1
    try clear c18
    try clear c18b0
    try clear c18b1
    try clear c19
    try clear c19b0
    try clear c19b1
    try clear c20
    try clear c20b0
    try clear c20b1
    try clear c21
    try clear c21b0
    try clear c22
    try clear c24
    try clear c24b0
    try clear c24b1
    try clear c25
    try clear c25b0
    try clear c27
    try clear c27b0
    try clear c27b1
    try clear c28
    try clear c28b0
    try clear c28b1
    try clear c30
    try clear c30b0
    try clear c30b1
    try clear c32
    try clear q32
    try clear hcz23_0
    try clear hcz23_1
    try clear hcz23_2
    try clear hcz23_3
    try clear hcz23_4
    try clear hcz23_5
    try clear hcz23_6
    try clear hcz26_0
    try clear hcz26_1
    try clear hcz26_2
    try clear hcz26_3
    try clear hcz26_4
    try clear hcz26_5
    try clear hcz26_6
    try clear hcz5_0
    try clear hcz5_1
    try clear hcz5_2
    try clear hcz5_3
    try clear hcz5_4
    try clear hcz5_5
    try clear hcz5_6
    try clear hfz23_0
    try clear hfz23_1
    try clear hfz23_2
    try clear hfz23_3
    try clear hfz23_4
    try clear hfz23_5
    try clear hfz23_6
    try clear hfz26_0
    try clear hfz26_1
    try clear hfz26_2
    try clear hfz26_3
    try clear hfz26_4
    try clear hfz26_5
    try clear hfz26_6
    try clear hfz5_0
    try clear hfz5_1
    try clear hfz5_2
    try clear hfz5_3
    try clear hfz5_4
    try clear hfz5_5
    try clear hfz5_6
    try clear hx108_0
    try clear hx109_0
    try clear hx110_0
    try clear hx111_0
    try clear hx112_0
    try clear hx113_0
    try clear hx120_0
    try clear hx121_0
    try clear hx122_0
    try clear p108
    try clear p109
    try clear p110
    try clear p111
    try clear p112
    try clear p113
    try clear p120
    try clear p121
    try clear p122
    try clear q108
    try clear q109
    try clear q11
    try clear q110
    try clear q111
    try clear q112
    try clear q113
    try clear q120
    try clear q121
    try clear q122
    try clear q32
    obtain ⟨x10_2, x11_2, x12_2, x102000_2, x102001_2, x102002_2, x102003_2, x102004_2, x102005_2, x124005_2, x124006_2, u124006, rfl, rfl, rfl, HA, HK2, HO_1, HO_124006, BK101, BK123, HB⟩ := hrel
    cases gk with
    | zero => exact absurd HA.out (by simp [psalteryref18_Read_raw.l0])
    | succ k2 =>
     have H := HA.out
     clear HA
     simp only [psalteryref18_Read_raw.l0] at H
     by_cases c42 : x12_2 < (wrap64 (rd l1 21))
     ·rw [if_pos c42] at H
      have c42b0 : decide (x12_2 < (wrap64 (rd l1 21))) = true := Zn c42
      clear c42
      obtain ⟨ji43, hji43⟩ : ∃ j_ : Int, (wrap64 (22 + x12_2)) = j_ := ⟨_, rfl⟩
      replace H : (if 0 ≤ (ji43) then (if (ji43) < (l1.length : Int) then (if (wrap64 (rd l1 (ji43))) = 255 then (psalteryref18_Read_raw.j2 k2 l0 l1 (wrap64 (rd l1 21)) x10_2 (wrap64 (x11_2 + (wrap64 (rd l1 (ji43))))) x12_2 (decide ((wrap64 (x12_2 + 1)) < (wrap64 (rd l1 21)))) (wrap64 (t119)) (wrap64 (t107)) vfi vla vco ((wrap64 (rd l1 (ji43))) == 255) x124006_2) else (psalteryref18_Read_raw.j2 k2 l0 l1 (wrap64 (rd l1 21)) x10_2 (wrap64 (x11_2 + (wrap64 (rd l1 (ji43))))) x12_2 false (wrap64 (t119)) (wrap64 (t107)) vfi vla vco ((wrap64 (rd l1 (ji43))) == 255) x124006_2)) else (none)) else (none)) = some (r1, r2, r3, r4, r5, r6, r7, r8, r9) := by first | (rw [hji43] at H; exact H) | (simp only [hji43] at H ⊢; exact H)
      have hji43w : (IntKind.i64.wrap (22 + x12_2)) = ji43 := (i64_w _).trans hji43
      by_cases c44 : 0 ≤ (ji43)
      rotate_left
      ·rw [if_neg c44] at H
       exact absurd H (by simp)
      rw [if_pos c44] at H
      have c44b0 : decide (0 ≤ (ji43)) = true := Zn c44
      clear c44
      by_cases c45 : (ji43) < (l1.length : Int)
      rotate_left
      ·rw [if_neg c45] at H
       exact absurd H (by simp)
      rw [if_pos c45] at H
      have c45b0 : decide ((ji43) < (l1.length : Int)) = true := Zn c45
      clear c45
      have HC46 := Zma H
      clear H
      have p132 : 0 ≤ ((ji43) : Int) := Zg (by first | (with_reducible assumption) | assumption)
      have q132 : (ji43) < (l1.length : Int) := Zg (by first | (with_reducible assumption) | assumption)
      obtain ⟨ad132, e132, hx132_0⟩ := Znb (Zjb HO_1.out).2.2 (ji43) p132 q132
      obtain rfl : ad113 = ad132 := (by injection e132)
      replace p132 := Zja p132
      replace q132 := Zja q132
      have hnb47 := NB123_101.out
      have hnc47 := NB101_123.out
      obtain ⟨hcz48_0, hcz48_1, hcz48_2, hcz48_3, hcz48_4, hcz48_5, hcz48_6, hfz48_0, hfz48_1, hfz48_2, hfz48_3, hfz48_4, hfz48_5, hfz48_6⟩ := blk7 BK123.out
      go_upto_region 18 with (fail)
      obtain ⟨mo_, hmo_⟩ : ∃ v_ : Bool, v_ = ((wrap64 (rd l1 (ji43))) == 255) := ⟨_, rfl⟩
      rw [← hmo_] at HC46 ⊢
      clear hmo_
      go_cut [113] (fun v113 wc => ∃ (kq : Nat) (x113_45 : Bool), v113 = .bool x113_45 ∧ Aside0 (psalteryref18_Read_raw.j2 kq l0 l1 (wrap64 (rd l1 21)) x10_2 (wrap64 (x11_2 + (wrap64 (rd l1 (ji43))))) x12_2 x113_45 (wrap64 (t119)) (wrap64 (t107)) vfi vla vco mo_ x124006_2 = some (r1, r2, r3, r4, r5, r6, r7, r8, r9)) ∧ Aside0 (kq ≤ k2) ∧ Aside0 (Kd.V (Kd.int .u8) 5 wc w.heap.size (fun k_ => (P1_ k_ ∨ w.heap.size ≤ k_) ∧ some k_ ≠ (u124006 : Value).ownBlock ∧ k_ ≠ gb101 ∧ k_ ≠ gb123) (.slice (some ad113) l1.length c1) l1) ∧ Aside0 (Kd.N (Kd.slice 5 (Kd.int .u8)) 28 wc w.heap.size (fun k_ => (P1_ k_ ∨ w.heap.size ≤ k_) ∧ k_ ≠ gb101 ∧ k_ ≠ gb123) u124006 x124006_2) ∧ Aside0 (wc.heap[gb101]? = some (.cells #[.int .i64 x102000_2, .int .i64 x102001_2, .bool x102002_2, .bool x102003_2, .bool x102004_2, .bool x102005_2, (.slice none 0 0)] 50 (0, 0))) ∧ Aside0 (wc.heap[gb123]? = some (.cells #[.int .i64 (wrap64 (t119)), .int .i64 (wrap64 (t107)), .bool vfi, .bool vla, .bool vco, .bool mo_, u124006] 50 (0, 0))) ∧ Aside0 (Below w.heap.size w wc))
      case first =>
       have H := HC46.out
       clear HC46
       by_cases c49 : (wrap64 (rd l1 (ji43))) = 255
       ·rw [if_pos c49] at H
        have c49b0 : ((wrap64 (rd l1 (ji43))) == 255) = true := beq_iff_eq.mpr c49
        have c49b1 : ((wrap64 (rd l1 (ji43))) != 255) = false := bne_eq_false_iff_eq.mpr c49
        clear c49
        skip
        have H' := Zma H
        clear H
        go_wp2
        go_meet
        case rel => exact ⟨_, (decide ((wrap64 (x12_2 + 1)) < (wrap64 (rd l1 21)))), (by first | rfl | (simp; done) | (simp [*]; done)), H', ⟨by have := HJ8.out; have := HK2.out; first | omega | exact Zra _⟩, ⟨by refine vq ?_; exact Zwa (Kd.V_far (p := ⟨gb123, 5, none⟩) (Zwa HO_1.out (fun k_ hk => (⟨hk, hk.2.2.2⟩ : _ ∧ k_ ≠ gb123))) (fun _ hk => hk.2) (.bool mo_)) (fun _ hk => ⟨hk.1.1, ⟨hk.1.2.1, ⟨hk.1.2.2.1, hk.1.2.2.2⟩⟩⟩)⟩, ⟨by refine nq ?_; exact Kd.N_mono (Kd.N_far (p := ⟨gb123, 5, none⟩) (Kd.N_mono HO_124006.out (fun k_ hk => (⟨hk, hk.2.2⟩ : _ ∧ k_ ≠ gb123))) (fun _ hk => hk.2) (.bool mo_)) (fun _ hk => ⟨hk.1.1, ⟨hk.1.2.1, hk.1.2.2⟩⟩)⟩, ⟨by refine kq ?_; refine Zua ?_ NB101_123.out _; refine kq ?_; exact BK101.out⟩, ⟨by refine kq ?_; refine Zva (cs := #[.int .i64 (wrap64 (t119)), .int .i64 (wrap64 (t107)), .bool vfi, .bool vla, .bool vco, .bool x124005_2, u124006]) ?_ 5 _ rfl; refine kq ?_; exact BK123.out⟩, ⟨bq⟩⟩
       rw [if_neg c49] at H
       have c49b0 : ((wrap64 (rd l1 (ji43))) == 255) = false := beq_eq_false_iff_ne.mpr c49
       have c49b1 : ((wrap64 (rd l1 (ji43))) != 255) = true := bne_iff_ne.mpr c49
       skip
       have H' := Zma H
       clear H
       go_wp2
       go_meet
       case rel => exact ⟨_, (false), (by first | rfl | (simp; done) | (simp [*]; done)), H', ⟨by have := HJ8.out; have := HK2.out; first | omega | exact Zra _⟩, ⟨by refine vq ?_; exact Zwa (Kd.V_far (p := ⟨gb123, 5, none⟩) (Zwa HO_1.out (fun k_ hk => (⟨hk, hk.2.2.2⟩ : _ ∧ k_ ≠ gb123))) (fun _ hk => hk.2) (.bool mo_)) (fun _ hk => ⟨hk.1.1, ⟨hk.1.2.1, ⟨hk.1.2.2.1, hk.1.2.2.2⟩⟩⟩)⟩, ⟨by refine nq ?_; exact Kd.N_mono (Kd.N_far (p := ⟨gb123, 5, none⟩) (Kd.N_mono HO_124006.out (fun k_ hk => (⟨hk, hk.2.2⟩ : _ ∧ k_ ≠ gb123))) (fun _ hk => hk.2) (.bool mo_)) (fun _ hk => ⟨hk.1.1, ⟨hk.1.2.1, hk.1.2.2⟩⟩)⟩, ⟨by refine kq ?_; refine Zua ?_ NB101_123.out _; refine kq ?_; exact BK101.out⟩, ⟨by refine kq ?_; refine Zva (cs := #[.int .i64 (wrap64 (t119)), .int .i64 (wrap64 (t107)), .bool vfi, .bool vla, .bool vco, .bool x124005_2, u124006]) ?_ 5 _ rfl; refine kq ?_; exact BK123.out⟩, ⟨bq⟩⟩
      case rest =>
       clear HC46
       try clear c1
       try clear p1
       try clear q1
       try clear hx1
       try clear qi1
       try clear c2
       try clear p2
       try clear c3
       try clear q3
       try clear c4
       try clear p6
       try clear c7
       try clear p10
       try clear q10
       try clear hx10
       try clear p11
       try clear q11
       try clear hx11
       try clear qi11
       try clear c12
       try clear c12b1
       try clear p12
       try clear q12
       try clear hx12
       try clear qi12
       try clear c13
       try clear c13b0
       try clear c13b1
       try clear p13
       try clear q13
       try clear hx13
       try clear c14
       try clear c14b0
       try clear c14b1
       try clear c15
       try clear c15b0
       try clear c15b1
       try clear c16
       try clear c16b0
       try clear c16b1
       try clear c17
       try clear c17b0
       try clear c17b1
       try clear c18
       try clear c18b0
       try clear c18b1
       try clear c19
       try clear c19b0
       try clear c19b1
       try clear c20
       try clear c20b0
       try clear c20b1
       try clear c21
       try clear c21b0
       try clear c22
       try clear c24
       try clear c24b0
       try clear c24b1
       try clear c25
       try clear c25b0
       try clear c27
       try clear c27b0
       try clear c27b1
       try clear c28
       try clear c28b0
       try clear c28b1
       try clear c30
       try clear c30b0
       try clear c30b1
       try clear c32
       try clear q32
       try clear c42
       try clear c42b0
       try clear c44
       try clear c44b0
       try clear c45
       try clear c45b0
       try clear c47
       try clear c49
       try clear c49b0
       try clear c49b1
       try clear hcz23_0
       try clear hcz23_1
       try clear hcz23_2
       try clear hcz23_3
       try clear hcz23_4
       try clear hcz23_5
       try clear hcz23_6
       try clear hcz26_0
       try clear hcz26_1
       try clear hcz26_2
       try clear hcz26_3
       try clear hcz26_4
       try clear hcz26_5
       try clear hcz26_6
       try clear hcz48_0
       try clear hcz48_1
       try clear hcz48_2
       try clear hcz48_3
       try clear hcz48_4
       try clear hcz48_5
       try clear hcz48_6
       try clear hcz5_0
       try clear hcz5_1
       try clear hcz5_2
       try clear hcz5_3
       try clear hcz5_4
       try clear hcz5_5
       try clear hcz5_6
       try clear hfz23_0
       try clear hfz23_1
       try clear hfz23_2
       try clear hfz23_3
       try clear hfz23_4
       try clear hfz23_5
       try clear hfz23_6
       try clear hfz26_0
       try clear hfz26_1
       try clear hfz26_2
       try clear hfz26_3
       try clear hfz26_4
       try clear hfz26_5
       try clear hfz26_6
       try clear hfz48_0
       try clear hfz48_1
       try clear hfz48_2
       try clear hfz48_3
       try clear hfz48_4
       try clear hfz48_5
       try clear hfz48_6
       try clear hfz5_0
       try clear hfz5_1
       try clear hfz5_2
       try clear hfz5_3
       try clear hfz5_4
       try clear hfz5_5
       try clear hfz5_6
       try clear hx108_0
       try clear hx109_0
       try clear hx110_0
       try clear hx111_0
       try clear hx112_0
       try clear hx113_0
       try clear hx120_0
       try clear hx121_0
       try clear hx122_0
       try clear hx132_0
       try clear p1
       try clear p10
       try clear p108
       try clear p109
       try clear p11
       try clear p110
       try clear p111
       try clear p112
       try clear p113
       try clear p12
       try clear p120
       try clear p121
       try clear p122
       try clear p132
       try clear p2
       try clear p6
       try clear q1
       try clear q10
       try clear q108
       try clear q109
       try clear q11
       try clear q110
       try clear q111
       try clear q112
       try clear q113
       try clear q12
       try clear q120
       try clear q121
       try clear q122
       try clear q132
       try clear q3
       try clear q32
       obtain ⟨kq, x113_45, rfl, HA, HJ45, HO_1, HO_124006, BK101, BK123, HB⟩ := hcut
       cases kq with
       | zero => exact absurd HA.out (by simp [psalteryref18_Read_raw.j2])
       | succ kj45 =>
        have H := HA.out
        clear HA
        simp only [psalteryref18_Read_raw.j2] at H
        by_cases c50 : x113_45 = true
        ·subst c50
         have H1 : (psalteryref18_Read_raw.l0 kj45 l0 l1 (wrap64 (rd l1 21)) x10_2 (wrap64 (x11_2 + (wrap64 (rd l1 (ji43))))) (wrap64 (x12_2 + 1)) (wrap64 (t119)) (wrap64 (t107)) vfi vla vco mo_ x124006_2) = some (r1, r2, r3, r4, r5, r6, r7, r8, r9) := by rw [if_pos rfl] at H; exact H
         clear H
         have H := H1
         clear H1
         have H' := Zma H
         clear H
         go_wp2
         go_roundg kj45
         case measure => have := HJ8.out; have := HK2.out; have := HJ45.out; omega
         case rel => exact ⟨(x10_2), ((wrap64 (x11_2 + (wrap64 (rd l1 (ji43)))))), (wrap64 (x12_2 + 1)), (x102000_2), (x102001_2), (x102002_2), (x102003_2), (x102004_2), (x102005_2), (mo_), (x124006_2), (u124006), (by first | rfl | (simp; done) | (simp [*]; done)), (by first | rfl | (simp; done) | (simp only [← hji43] <;> (first | rfl | simp)) | (simp [*]; done)), (by first | rfl | (simp; done) | (simp [*]; done)), H', ⟨by have := HJ8.out; have := HK2.out; have := HJ45.out; omega⟩, ⟨vq HO_1.out⟩, ⟨nq HO_124006.out⟩, ⟨kq BK101.out⟩, ⟨kq BK123.out⟩, ⟨bq⟩⟩
        replace c50 := Bool.eq_false_iff.mpr c50
        subst c50
        have H1 : (if (l1.length : Int) < (wrap64 (x10_2 + (wrap64 (x11_2 + (wrap64 (rd l1 (ji43))))))) then (some (0, 0, false, false, false, false, ([] : List (List Int)), 0, 4)) else (if 0 ≤ x10_2 then (if x10_2 ≤ (wrap64 (x10_2 + (wrap64 (x11_2 + (wrap64 (rd l1 (ji43))))))) then (if (wrap64 (x10_2 + (wrap64 (x11_2 + (wrap64 (rd l1 (ji43))))))) ≤ (l1.length : Int) then (if x124006_2.length < 5864062014805 then (psalteryref18_Read_raw.l0 kj45 l0 l1 (wrap64 (rd l1 21)) (wrap64 (x10_2 + (wrap64 (x11_2 + (wrap64 (rd l1 (ji43))))))) 0 (wrap64 (x12_2 + 1)) (wrap64 (t119)) (wrap64 (t107)) vfi vla vco mo_ (x124006_2 ++ [((l1.take ((wrap64 (x10_2 + (wrap64 (x11_2 + (wrap64 (rd l1 (ji43))))))) : Int).toNat).drop (x10_2 : Int).toNat)])) else (none)) else (none)) else (none)) else (none))) = some (r1, r2, r3, r4, r5, r6, r7, r8, r9) := by rw [if_neg (show ¬ (false = true) by decide)] at H; exact H
        clear H
        have H := H1
        clear H1
        by_cases c51 : (l1.length : Int) < (wrap64 (x10_2 + (wrap64 (x11_2 + (wrap64 (rd l1 (ji43)))))))
        ·rw [if_pos c51] at H
         have c51b0 : decide ((l1.length : Int) < (wrap64 (x10_2 + (wrap64 (x11_2 + (wrap64 (rd l1 (ji43)))))))) = true := Zn c51
         clear c51
         simp only [Zib, Zhb] at H
         obtain ⟨rfl, rfl, rfl, rfl, rfl, rfl, rfl, rfl, rfl⟩ := H
         have hnb52 := NB101_123.out
         have hnc52 := NB123_101.out
         obtain ⟨hcz53_0, hcz53_1, hcz53_2, hcz53_3, hcz53_4, hcz53_5, hcz53_6, hfz53_0, hfz53_1, hfz53_2, hfz53_3, hfz53_4, hfz53_5, hfz53_6⟩ := blk7 BK101.out
         go_wp2
         refine bodyPost_ret (Zta rfl _ _ gb101 50 #[.int .i64 0, .int .i64 0, .bool false, .bool false, .bool false, .bool false, .slice none 0 0] (0, 0) _ rfl (by refine kq ?_; exact put7 (kq BK101.out)) Try.underlying50 rfl (by kernel_rfl)) rfl ?_
         exact ⟨_, by first | rfl | (simp [errW_none, errW_some] <;> rfl) | (simp only [← hji43]; first | rfl | (simp [errW_none, errW_some] <;> rfl)) | (simp [*, errW_none, errW_some] <;> rfl), by first | exact Kd.S_nil _ _ _ _ _ | exact Kd.N_nil _ _ _ _ _ | exact Kd.V_nil _ _ _ _ _ | exact Kd.Q_nil _ _ _ _ _ | exact Kd.R_nil _ _ _ _ _, bq⟩
        rw [if_neg c51] at H
        have c51b0 : decide ((l1.length : Int) < (wrap64 (x10_2 + (wrap64 (x11_2 + (wrap64 (rd l1 (ji43)))))))) = false := Zna c51
        clear c51
        by_cases c54 : 0 ≤ x10_2
        rotate_left
        ·rw [if_neg c54] at H
         exact absurd H (by simp)
        rw [if_pos c54] at H
        have c54b0 := Zja c54
        have c54b1 : decide (0 ≤ x10_2) = true := Zn c54
        clear c54
        by_cases c55 : x10_2 ≤ (wrap64 (x10_2 + (wrap64 (x11_2 + (wrap64 (rd l1 (ji43)))))))
        rotate_left
        ·rw [if_neg c55] at H
         exact absurd H (by simp)
        rw [if_pos c55] at H
        have c55b0 := Zja c55
        have c55b1 : decide (x10_2 ≤ (wrap64 (x10_2 + (wrap64 (x11_2 + (wrap64 (rd l1 (ji43)))))))) = true := Zn c55
        by_cases c56 : (wrap64 (x10_2 + (wrap64 (x11_2 + (wrap64 (rd l1 (ji43))))))) ≤ (l1.length : Int)
        rotate_left
        ·rw [if_neg c56] at H
         exact absurd H (by simp)
        rw [if_pos c56] at H
        have c56b0 := Zja c56
        have c56b1 : decide ((wrap64 (x10_2 + (wrap64 (x11_2 + (wrap64 (rd l1 (ji43))))))) ≤ (l1.length : Int)) = true := Zn c56
        obtain ⟨y133, hy133⟩ : ∃ y_ : List Int, y_ = ((l1.take ((wrap64 (x10_2 + (wrap64 (x11_2 + (wrap64 (rd l1 (ji43))))))) : Int).toNat).drop (x10_2 : Int).toNat) := ⟨_, rfl⟩
        replace H : (if x124006_2.length < 5864062014805 then (psalteryref18_Read_raw.l0 kj45 l0 l1 (wrap64 (rd l1 21)) (wrap64 (x10_2 + (wrap64 (x11_2 + (wrap64 (rd l1 (ji43))))))) 0 (wrap64 (x12_2 + 1)) (wrap64 (t119)) (wrap64 (t107)) vfi vla vco mo_ (x124006_2 ++ [y133])) else (none)) = some (r1, r2, r3, r4, r5, r6, r7, r8, r9) := by first | (rw [hy133]; with_reducible exact H) | (have H2_ := (Zsa _ _).symm.trans H; rw [hy133]; with_reducible exact H2_) | (have H2_ := (Zsa _ _).symm.trans H; with_reducible exact H2_) | with_reducible exact H | (rw [hy133]; exact H) | exact H
        have Ny133 := Zma hy133
        clear hy133
        by_cases c57 : x124006_2.length < 5864062014805
        rotate_left
        ·rw [if_neg c57] at H
         exact absurd H (by simp)
        rw [if_pos c57] at H
        have LMc57 := Zma c57
        clear c57
        obtain ⟨y138, hy138⟩ : ∃ y_ : List (List Int), y_ = (x124006_2 ++ [y133]) := ⟨_, rfl⟩
        replace H : (psalteryref18_Read_raw.l0 kj45 l0 l1 (wrap64 (rd l1 21)) (wrap64 (x10_2 + (wrap64 (x11_2 + (wrap64 (rd l1 (ji43))))))) 0 (wrap64 (x12_2 + 1)) (wrap64 (t119)) (wrap64 (t107)) vfi vla vco mo_ y138) = some (r1, r2, r3, r4, r5, r6, r7, r8, r9) := by first | (rw [hy138]; with_reducible exact H) | (have H2_ := (Zsa _ _).symm.trans H; rw [hy138]; with_reducible exact H2_) | (have H2_ := (Zsa _ _).symm.trans H; with_reducible exact H2_) | with_reducible exact H | (rw [hy138]; exact H) | exact H
        have Ny138 := Zma hy138
        clear hy138
        have H' := Zma H
        clear H
        try go_wp2
        have n0_ := Zma (Zw HO_1.out)
        have n1_ := Zma (Zt HO_124006.out)
        have n2_ := Zma (Zl BK101.out)
        have n3_ := Zma (Zl BK123.out)
        have n4_ := Zma (Zla HB.out)
        clear HO_1 HO_124006 BK101 BK123 HB; have HO_1 := n0_; have HO_124006 := n1_; have BK101 := n2_; have BK123 := n3_; have HB := n4_; clear n0_ n1_ n2_ n3_ n4_
        have q59 : ((wrap64 (x10_2 + (wrap64 (x11_2 + (wrap64 (rd l1 (ji43))))))) : Int) ≤ ((l1.length : Int) : Int) := Zg (by first | (with_reducible assumption) | assumption)
        obtain ⟨i059, hi059, _, hsz59, _⟩ := info_parts info5
        have hroom59 : l1.length ≤ c1 := (Zjb HO_1.out).2.1
        have hC59 : Kd.F (Kd.int .u8) _ _ (some ad113) l1.length l1 := (Kd.V_at (base := w.heap.size) HO_1.out).2.2
        have ql59 : (x10_2 : Int) ≤ ((wrap64 (x10_2 + (wrap64 (x11_2 + (wrap64 (rd l1 (ji43))))))) : Int) := Zg (by first | (with_reducible assumption) | assumption)
        have q059 : (0 : Int) ≤ (x10_2 : Int) := Zg (by first | (with_reducible assumption) | assumption)
        have hcut59 := cut_mid (P := Try.prog) 28 5 .i64 .i64 Try.underlying28 hi059 1 hsz59 (some ad113) l1.length c1 x10_2 (wrap64 (x10_2 + (wrap64 (x11_2 + (wrap64 (rd l1 (ji43))))))) q059 ql59 q59 hroom59
        have hr59 := Zmb (lo := (x10_2 : Int).toNat) (hi := ((wrap64 (x10_2 + (wrap64 (x11_2 + (wrap64 (rd l1 (ji43))))))) : Int).toNat) (c := c1) hC59 (by omega) (by omega) hroom59
        obtain ⟨A59, hA59⟩ : ∃ A1_, A1_ = (if c1 = (x10_2 : Int).toNat then (some ad113) else ((some ad113) : Option Addr).map (·.add ((x10_2 : Int).toNat * 1))) := ⟨_, rfl⟩
        obtain ⟨c59, hc59⟩ : ∃ c1_, c1_ = c1 - (x10_2 : Int).toNat := ⟨_, rfl⟩
        have hy59 : y133.length = ((wrap64 (x10_2 + (wrap64 (x11_2 + (wrap64 (rd l1 (ji43))))))) : Int).toNat - (x10_2 : Int).toNat := (by rw [Ny133.out, Zha, Zga] <;> omega)
        rw [show ((l1).take ((wrap64 (x10_2 + (wrap64 (x11_2 + (wrap64 (rd l1 (ji43))))))) : Int).toNat).drop (x10_2 : Int).toNat = y133 from Ny133.out.symm] at hr59
        replace hr59 : Kd.F (Kd.int .u8) _ _ A59 y133.length y133 := (by rw [hA59]; exact hr59)
        rw [← hy59, ← hA59, ← hc59] at hcut59
        have HO137 := Zma (show Kd.V (Kd.int .u8) 5 _ w.heap.size _ (.slice A59 y133.length c59) y133 from Kd.V_mk (by rw [hy59, hc59]; exact Nat.sub_le_sub_right (Nat.le_trans (by omega) hroom59) _) hr59)
        have HC137 := Zma (show y133.length ≤ c59 from by rw [hy59, hc59]; exact Nat.sub_le_sub_right (Nat.le_trans (by omega) hroom59) _)
        clear hr59 hC59 hroom59 hi059 hsz59 hc59
        have KY59 := Zma hy59
        have KA59 := Zma hA59
        clear hy59 hA59
        replace q59 := Zja q59
        refine start_ (n := 12) (S := fun w' => w'.cell? ⟨gb123, 0, none⟩ = some (.int .i64 (wrap64 (t119))) ∧ w'.cell? ⟨gb123, 1, none⟩ = some (.int .i64 (wrap64 (t107))) ∧ w'.cell? ⟨gb123, 2, none⟩ = some (.bool vfi) ∧ w'.cell? ⟨gb123, 3, none⟩ = some (.bool vla) ∧ w'.cell? ⟨gb123, 4, none⟩ = some (.bool vco) ∧ w'.cell? ⟨gb123, 5, none⟩ = some (.bool mo_) ∧ w'.cell? ⟨gb123, 6, none⟩ = some (u124006)) (ds := [11]) #[ZF,ZF,ZF,ZF,ZF,ZF,ZF,ZF,ZF,ZF,ZF,ZF] (by kernel_rfl) rfl rfl (cel7 BK123.out) (fun hHeld => ?_); refine with_tabW psalteryref18_Read_raw.tab21 psalteryref18_Read_raw.bits21 (fun HT_ HW_ => ?_)
        generalize wc.drew = w58 at HO_1 HO_124006 BK101 BK123 HB HO137 hHeld ⊢
        refine p1 HT_ 0 121 ?_
        refine p1 HT_ 2 123 ?_
        refine p1 HT_ 3 124 ?_
        refine p1 HT_ 4 125 ?_
        refine p1 HT_ 5 126 ?_
        refine p1 HT_ 6 127 ?_
        refine p1 HT_ 7 128 ?_
        refine p2 HT_ HW_ hHeld 1 122 ?_
        refine o1 HT_ 8 (some 129) (fun K hK => ?_)
        refine value_ (w1 := ?_) (v := ?_) (by rfl) rfl ?_ ?_
        rotate_left 2
        ·go_simp
         constructor
         ·rfl
         rfl
        refine hK.out _ _ ⟨(Zd (Zj BK123.out _) 0).trans rfl, (Zd (Zj BK123.out _) 1).trans rfl, (Zd (Zj BK123.out _) 2).trans rfl, (Zd (Zj BK123.out _) 3).trans rfl, (Zd (Zj BK123.out _) 4).trans rfl, (Zd (Zj BK123.out _) 5).trans rfl, (Zd (Zj BK123.out _) 6).trans rfl⟩ (fun hHeld => ?_)
        clear hK K
        refine n1 129 ?_
        refine o1 HT_ 9 (some 130) (fun K hK => ?_)
        refine Kd.N_append_step (Kd.slice 5 (Kd.int .u8)) (w0 := w) w.heap.size (by rfl) (.tmp 122) (.tmp 129) 41 28 (.slice none 0 0) 24 rfl Try.underlying41 info28 rfl (by decide) (by omega) u124006 x124006_2 y133 [.slice A59 y133.length c59] (fun k_ => (P1_ k_ ∨ w.heap.size ≤ k_) ∧ k_ ≠ gb101 ∧ k_ ≠ gb123) (fun k_ => ((fun k_ => (P1_ k_ ∨ w.heap.size ≤ k_) ∧ k_ ≠ gb101 ∧ k_ ≠ gb123)) k_ ∧ some k_ ≠ (u124006 : Value).ownBlock) rfl rfl ?aP (fun _ hk => hk) ?aF ?aO ?aB ?aS ?aL ?_
        (case aP => exact (Kd.FK_slice_mk (Zjb (Zwa (ok' := (fun k_ => ((fun k_ => (P1_ k_ ∨ w.heap.size ≤ k_) ∧ k_ ≠ gb101 ∧ k_ ≠ gb123)) k_ ∧ some k_ ≠ (u124006 : Value).ownBlock)) (HO137.out) (fun k_ hk => ⟨⟨hk.1, ⟨hk.2.2.1, hk.2.2.2⟩⟩, hk.2.1⟩))).2.1 (Kd.V_F (Zwa (ok' := (fun k_ => ((fun k_ => (P1_ k_ ∨ w.heap.size ≤ k_) ∧ k_ ≠ gb101 ∧ k_ ≠ gb123)) k_ ∧ some k_ ≠ (u124006 : Value).ownBlock)) (HO137.out) (fun k_ hk => ⟨⟨hk.1, ⟨hk.2.2.1, hk.2.2.2⟩⟩, hk.2.1⟩)))))
        (case aB => exact bq)
        (case aF => exact (fun k_ hk => ⟨(.inr (Nat.le_trans (Zfa bq) hk)), Kd.freshB (g := gb101) (o := .cells #[.int .i64 x102000_2, .int .i64 x102001_2, .bool x102002_2, .bool x102003_2, .bool x102004_2, .bool x102005_2, .slice none 0 0] 50 (0, 0)) (kq BK101.out) k_ hk, Kd.freshB (g := gb123) (o := .cells #[.int .i64 (wrap64 (t119)), .int .i64 (wrap64 (t107)), .bool vfi, .bool vla, .bool vco, .bool mo_, u124006] 50 (0, 0)) (kq BK123.out) k_ hk⟩))
        (case aO => exact (nq HO_124006.out))
        (case aS => exact (Zfa bq))
        (case aL => have := LMc57.out; omega)
        intro v139 w60 ho hb hg hat
        rw [← Ny138.out] at ho
        have n0_ := Zma (Kd.V_afterv (ok := (fun k_ => (P1_ k_ ∨ w.heap.size ≤ k_) ∧ k_ ≠ gb101 ∧ k_ ≠ gb123)) (by refine vq ?_; exact Zwa HO_1.out (fun _ hk => ⟨⟨hk.1, ⟨hk.2.2.1, hk.2.2.2⟩⟩, hk.2.1⟩)) hg hat)
        have n1_ := Zma (blk_grown (g := gb101) (o := .cells #[.int .i64 x102000_2, .int .i64 x102001_2, .bool x102002_2, .bool x102003_2, .bool x102004_2, .bool x102005_2, .slice none 0 0] 50 (0, 0)) (kq BK101.out) hg (Kd.N_ne HO_124006.out BK101.out (by decide)))
        have n2_ := Zma (blk_grown (g := gb123) (o := .cells #[.int .i64 (wrap64 (t119)), .int .i64 (wrap64 (t107)), .bool vfi, .bool vla, .bool vco, .bool mo_, u124006] 50 (0, 0)) (kq BK123.out) hg (Kd.N_ne HO_124006.out BK123.out (by decide)))
        have n3_ := Zma (Kd.V_afterv (ok := (fun k_ => (P1_ k_ ∨ w.heap.size ≤ k_) ∧ k_ ≠ gb101 ∧ k_ ≠ gb123)) (by refine vq ?_; exact Zwa HO137.out (fun _ hk => ⟨⟨hk.1, ⟨hk.2.2.1, hk.2.2.2⟩⟩, hk.2.1⟩)) hg hat)
        have n4_ := Zma (hb)
        have n5_ := Zma (ho)
        clear HO_1 BK101 BK123 HO137 HB HO_124006; have HO_1 := n0_; have BK101 := n1_; have BK123 := n2_; have HO137 := n3_; have HB := n4_; have HO140 := n5_; clear n0_ n1_ n2_ n3_ n4_ n5_ ho hb hg hat
        obtain ⟨Ao61, co61, eo61⟩ := Kd.N_slice HO140.out
        (first | subst eo61 | (injection eo61 with f1_ f2_ f3_; have f4_ := f1_.symm; have f5_ := f3_.symm; clear f1_ f2_ f3_; subst f4_; subst f5_))
        refine hK.out _ _ (cel7 BK123.out) (fun hHeld => ?_)
        clear hK K
        refine n1 130 ?_
        refine p1 HT_ 10 131 ?_
        refine last_ (i := 11) (N := none) #[ZT,ZT,ZT,ZT,ZT,ZT,ZT,ZT,ZT,ZT,ZT,ZT] rfl rfl (one_of HT_.out (by kernel_rfl)) (by decide) (fun K hK => ?_)
        have hs62 : w60.cell? ⟨gb123, 6, none⟩ = some (u124006) := (Zd BK123.out 6).trans rfl
        have hfs62 := Zf BK123.out 6
        have hns62_0 := NB101_123.out
        have hms62_0 := NB123_101.out
        refine skip_ (w1 := ?_) (by rfl) rfl ?_ ?_
        rotate_left
        ·go_simp
         rfl
        refine hK.out _ _ ?_
        clear hK K
        refine done_ (done_of HT_.out (by kernel_rfl)) ?_
        try go_wp2
        go_roundg kj45
        case measure => have := HJ8.out; have := HK2.out; have := HJ45.out; omega
        case rel => exact ⟨(wrap64 (x10_2 + (wrap64 (x11_2 + (wrap64 (rd l1 (ji43))))))), (0), (wrap64 (x12_2 + 1)), (x102000_2), (x102001_2), (x102002_2), (x102003_2), (x102004_2), (x102005_2), (mo_), (y138), (.slice Ao61 y138.length co61), (by first | rfl | (simp; done) | (simp only [← hji43] <;> (first | rfl | simp)) | (simp [*]; done)), (by first | rfl | (simp; done) | (simp [*]; done)), (by first | rfl | (simp; done) | (simp [*]; done)), H', ⟨by have := HJ8.out; have := HK2.out; have := HJ45.out; omega⟩, ⟨by refine vq ?_; exact Zwa (Kd.V_far (p := ⟨gb123, 6, none⟩) (Zwa HO_1.out (fun k_ hk => (⟨hk, hk.1.2.2⟩ : _ ∧ k_ ≠ gb123))) (fun _ hk => hk.2) (.slice Ao61 y138.length co61)) (fun _ hk => ⟨hk.1.1.1, ⟨hk.1.2, ⟨hk.1.1.2.1, hk.1.1.2.2⟩⟩⟩)⟩, ⟨by refine nq ?_; exact Kd.N_mono (Kd.N_far (p := ⟨gb123, 6, none⟩) (Kd.N_mono HO140.out (fun k_ hk => (⟨hk, hk.2.2⟩ : _ ∧ k_ ≠ gb123))) (fun _ hk => hk.2) (.slice Ao61 y138.length co61)) (fun _ hk => ⟨hk.1.1, ⟨hk.1.2.1, hk.1.2.2⟩⟩)⟩, ⟨by refine kq ?_; refine Zua ?_ NB101_123.out _; refine kq ?_; exact BK101.out⟩, ⟨by refine kq ?_; refine Zva (cs := #[.int .i64 (wrap64 (t119)), .int .i64 (wrap64 (t107)), .bool vfi, .bool vla, .bool vco, .bool mo_, u124006]) ?_ 6 _ rfl; refine kq ?_; exact BK123.out⟩, ⟨bq⟩⟩
     rw [if_neg c42] at H
     have c42b0 : decide (x12_2 < (wrap64 (rd l1 21))) = false := Zna c42
     clear c42
     replace H := Option.bind_eq_some_iff.mp H
     obtain ⟨t124, A630, H⟩ := H
     replace H : (if 0 ≤ x10_2 then (if x10_2 ≤ (l1.length : Int) then (if (strOfNums t124).toList = (strOfNums (l1.take (x10_2 : Int).toNat)).toList then (some ((wrap64 (t119)), (wrap64 (t107)), vfi, vla, vco, x124005_2, x124006_2, x10_2, 0)) else (some (0, 0, false, false, false, false, ([] : List (List Int)), 0, 6))) else (none)) else (none)) = some (r1, r2, r3, r4, r5, r6, r7, r8, r9) := H
     have A63 := Zma A630
     clear A630
     by_cases c64 : 0 ≤ x10_2
     rotate_left
     ·rw [if_neg c64] at H
      exact absurd H (by simp)
     rw [if_pos c64] at H
     have c64b0 := Zja c64
     have c64b1 : decide (0 ≤ x10_2) = true := Zn c64
     clear c64
     by_cases c65 : x10_2 ≤ (l1.length : Int)
     rotate_left
     ·rw [if_neg c65] at H
      exact absurd H (by simp)
     rw [if_pos c65] at H
     have c65b0 := Zja c65
     have c65b1 : decide (x10_2 ≤ (l1.length : Int)) = true := Zn c65
     clear c65
     obtain ⟨y127, hy127⟩ : ∃ y_ : List Int, y_ = (l1.take (x10_2 : Int).toNat) := ⟨_, rfl⟩
     replace H : (if (strOfNums t124).toList = (strOfNums y127).toList then (some ((wrap64 (t119)), (wrap64 (t107)), vfi, vla, vco, x124005_2, x124006_2, x10_2, 0)) else (some (0, 0, false, false, false, false, ([] : List (List Int)), 0, 6))) = some (r1, r2, r3, r4, r5, r6, r7, r8, r9) := by first | (rw [hy127]; with_reducible exact H) | (have H2_ := (Zsa _ _).symm.trans H; rw [hy127]; with_reducible exact H2_) | (have H2_ := (Zsa _ _).symm.trans H; with_reducible exact H2_) | with_reducible exact H | (rw [hy127]; exact H) | exact H
     have Ny127 := Zma hy127
     clear hy127
     have HMg_ := Zma H
     clear H
     obtain ⟨Ao67, co67, eo67⟩ := Kd.N_slice HO_124006.out
     subst eo67
     try go_wp2
     have n0_ := Zma (Zw HO_1.out)
     have n1_ := Zma (Zt HO_124006.out)
     have n2_ := Zma (Zl BK101.out)
     have n3_ := Zma (Zl BK123.out)
     have n4_ := Zma (Zla HB.out)
     clear HO_1 HO_124006 BK101 BK123 HB; have HO_1 := n0_; have HO_124006 := n1_; have BK101 := n2_; have BK123 := n3_; have HB := n4_; clear n0_ n1_ n2_ n3_ n4_
     have q69 : (x10_2 : Int) ≤ ((l1.length : Int) : Int) := Zg (by first | (with_reducible assumption) | assumption)
     obtain ⟨i069, hi069, _, hsz69, _⟩ := info_parts info5
     have hroom69 : l1.length ≤ c1 := (Zjb HO_1.out).2.1
     have hC69 : Kd.F (Kd.int .u8) _ _ (some ad113) l1.length l1 := (Kd.V_at (base := w.heap.size) HO_1.out).2.2
     have hcut69 := cut_to (P := Try.prog) 28 5 .i64 Try.underlying28 hi069 (some ad113) l1.length c1 x10_2 (Zg (by first | (with_reducible assumption) | assumption)) q69 hroom69
     have hr69 := Kd.F_take (m := (x10_2 : Int).toNat) hC69 (by omega)
     have hy69 : y127.length = (x10_2 : Int).toNat := (by rw [Ny127.out, Zga]; omega)
     rw [← Ny127.out] at hr69
     rw [← hy69] at hcut69
     have HO131 := Zma (show Kd.V (Kd.int .u8) 5 _ w.heap.size _ (.slice (some ad113) y127.length c1) y127 from Kd.V_mk (by omega) hr69)
     have HC131 := Zma (show y127.length ≤ c1 from by omega)
     clear hr69 hC69 hroom69 hi069 hsz69
     have KY69 := Zma hy69
     clear hy69
     replace q69 := Zja q69
     refine start_ (n := 9) (S := fun w' => w'.cell? ⟨gb123, 0, none⟩ = some (.int .i64 (wrap64 (t119))) ∧ w'.cell? ⟨gb123, 1, none⟩ = some (.int .i64 (wrap64 (t107))) ∧ w'.cell? ⟨gb123, 2, none⟩ = some (.bool vfi) ∧ w'.cell? ⟨gb123, 3, none⟩ = some (.bool vla) ∧ w'.cell? ⟨gb123, 4, none⟩ = some (.bool vco) ∧ w'.cell? ⟨gb123, 5, none⟩ = some (.bool x124005_2) ∧ w'.cell? ⟨gb123, 6, none⟩ = some (.slice Ao67 x124006_2.length co67)) (ds := []) #[ZF,ZF,ZF,ZF,ZF,ZF,ZF,ZF,ZF] (by kernel_rfl) rfl rfl (cel7 BK123.out) (fun hHeld => ?_); refine with_tabW psalteryref18_Read_raw.tab24 psalteryref18_Read_raw.bits24 (fun HT_ HW_ => ?_)
     generalize wr.drew = w68 at HO_1 HO_124006 BK101 BK123 HB HO131 hHeld ⊢
     refine p1 HT_ 0 135 ?_
     refine p1 HT_ 4 139 ?_
     refine p1 HT_ 5 140 ?_
     refine p1 HT_ 6 141 ?_
     refine p2 HT_ HW_ hHeld 1 136 ?_
     refine join_ (σ := Value) 1 #[ZT,ZT,ZT,ZT,ZT,ZT,ZT,ZT,ZF] (fun s_ => [(137, s_), (138, .string (strOfNums t124)), (142, .string (strOfNums y127))]) (fun s_ w' => (w'.cell? ⟨gb123, 0, none⟩ = some (.int .i64 (wrap64 (t119))) ∧ w'.cell? ⟨gb123, 1, none⟩ = some (.int .i64 (wrap64 (t107))) ∧ w'.cell? ⟨gb123, 2, none⟩ = some (.bool vfi) ∧ w'.cell? ⟨gb123, 3, none⟩ = some (.bool vla) ∧ w'.cell? ⟨gb123, 4, none⟩ = some (.bool vco) ∧ w'.cell? ⟨gb123, 5, none⟩ = some (.bool x124005_2) ∧ w'.cell? ⟨gb123, 6, none⟩ = some (.slice Ao67 x124006_2.length co67)) ∧ (Kd.R (Kd.int .u8) 5 w' w.heap.size (fun k_ => (w.heap.size ≤ k_)) s_ t124) ∧ (Kd.V (Kd.int .u8) 5 w' w.heap.size (fun k_ => (P1_ k_ ∨ w.heap.size ≤ k_) ∧ some k_ ≠ (s_ : Value).ownBlock ∧ some k_ ≠ (.slice Ao67 x124006_2.length co67 : Value).ownBlock ∧ k_ ≠ gb101 ∧ k_ ≠ gb123) (.slice (some ad113) y127.length c1) y127) ∧ (Kd.V (Kd.int .u8) 5 w' w.heap.size (fun k_ => (P1_ k_ ∨ w.heap.size ≤ k_) ∧ some k_ ≠ (s_ : Value).ownBlock ∧ some k_ ≠ (.slice Ao67 x124006_2.length co67 : Value).ownBlock ∧ k_ ≠ gb101 ∧ k_ ≠ gb123) (.slice (some ad113) l1.length c1) l1) ∧ (Kd.N (Kd.slice 5 (Kd.int .u8)) 28 w' w.heap.size (fun k_ => (P1_ k_ ∨ w.heap.size ≤ k_) ∧ some k_ ≠ (s_ : Value).ownBlock ∧ k_ ≠ gb101 ∧ k_ ≠ gb123) (.slice Ao67 x124006_2.length co67) x124006_2) ∧ (w'.heap[gb101]? = some (.cells #[.int .i64 x102000_2, .int .i64 x102001_2, .bool x102002_2, .bool x102003_2, .bool x102004_2, .bool x102005_2, .slice none 0 0] 50 (0, 0))) ∧ (w'.heap[gb123]? = some (.cells #[.int .i64 (wrap64 (t119)), .int .i64 (wrap64 (t107)), .bool vfi, .bool vla, .bool vco, .bool x124005_2, .slice Ao67 x124006_2.length co67] 50 (0, 0))) ∧ (Below w.heap.size w w')) ?_ ?_
     rotate_left
     ·intro hCont
      refine two_ (i := 2) (j := 7) (Ni := some 137) (Nj := some 142) #[ZT,ZT,ZT,ZF,ZT,ZT,ZT,ZF,ZF] #[ZT,ZT,ZF,ZF,ZT,ZT,ZT,ZT,ZF] rfl rfl rfl rfl (two_of HT_.out (by kernel_rfl)) (by decide) (by decide) (fun K hK => ?_) (fun K hK => ?_)
      ·skip
       refine goes_ Try.func56 (by kernel_rfl) rfl #[.slice A0 l0.length c0, .agg #[.int .i64 (wrap64 (t119)), .int .i64 (wrap64 (t107)), .bool vfi, .bool vla, .bool vco, .bool x124005_2, .slice Ao67 x124006_2.length co67]] (by rfl) rfl rfl (by (try simp only [Zdb, Zeb, Zfb]); first | done | rfl | (simp only [Zha, Zga]; rfl)) ?_
       with_reducible refine (psalteryref18_Write.calls _ _ l0 (wrap64 (t119)) (wrap64 (t107)) vfi vla vco x124005_2 _ _ x124006_2 t124 _ ?side1 ?side2 ?side3 ?side4 A63.out).mono ?_
       (case side1 => exact cq ((Kd.C_below HR0.out HB.out)))
       (case side2 => exact HC0.out)
       (case side3 => exact cq ((Zlb HO_124006.out).2.2))
       (case side4 => exact (Zlb HO_124006.out).2.1)
       rintro e w70 ⟨v125, rfl, ho0, hb⟩
       refine ⟨_, rfl, ?_⟩
       have n0_ := Zma (Kd.V_elder' (vq HO_1.out) (Kd.R_base ho0) hb)
       have n1_ := Zma (Kd.N_elder' (nq HO_124006.out) (Kd.R_base ho0) hb)
       have n2_ := Zma (Kd.V_elder' (vq HO131.out) (Kd.R_base ho0) hb)
       have n3_ := Zma (Zxa (Kd.R_newM (M := fun k_ => (w.heap.size ≤ k_)) ho0 (Zfa bq) (fun k_ h_ => h_)) (Zfa bq))
       have n4_ := Zma (Zab (g := gb101) (o := .cells #[.int .i64 x102000_2, .int .i64 x102001_2, .bool x102002_2, .bool x102003_2, .bool x102004_2, .bool x102005_2, .slice none 0 0] 50 (0, 0)) (kq BK101.out) hb)
       have n5_ := Zma (Zab (g := gb123) (o := .cells #[.int .i64 (wrap64 (t119)), .int .i64 (wrap64 (t107)), .bool vfi, .bool vla, .bool vco, .bool x124005_2, .slice Ao67 x124006_2.length co67] 50 (0, 0)) (kq BK123.out) hb)
       have n6_ := Zma (Zoa bq hb)
       clear HO_1 HO_124006 HO131 BK101 BK123 HB; have HO_1 := n0_; have HO_124006 := n1_; have HO131 := n2_; have HO126 := n3_; have BK101 := n4_; have BK123 := n5_; have HB := n6_; clear n0_ n1_ n2_ n3_ n4_ n5_ n6_
       (try clear hb)
       (try clear ho0)
       refine hK.out _ _ (cel7 BK123.out) (fun hHeld => ?_)
       clear hK K
       refine n1 137 ?_
       refine two_ (i := 3) (j := 7) (Ni := some 138) (Nj := some 142) #[ZT,ZT,ZT,ZT,ZT,ZT,ZT,ZF,ZF] #[ZT,ZT,ZT,ZF,ZT,ZT,ZT,ZT,ZF] rfl rfl rfl rfl (two_of HT_.out (by kernel_rfl)) (by decide) (by decide) (fun K hK => ?_) (fun K hK => ?_)
       ·skip
        have hcv71 := own_string (P := Try.prog) Try.underlying28 Try.underlying5 Try.underlying9 (Kd.own_of_R HO126.out)
        refine value_ (w1 := ?_) (v := ?_) (by rfl) rfl ?_ ?_
        rotate_left 2
        ·go_simp
         constructor
         ·rfl
         rfl
        clear hcv71
        refine hK.out _ _ (cel7 BK123.out) (fun hHeld => ?_)
        clear hK K
        refine n1 138 ?_
        refine o1 HT_ 7 (some 142) (fun K hK => ?_)
        have hcv72 := Kd.C_string (P := Try.prog) (c := c1) Try.underlying28 Try.underlying5 Try.underlying9 (Zjb HO131.out).2.2
        refine value_ (w1 := ?_) (v := ?_) (by rfl) rfl ?_ ?_
        rotate_left 2
        ·go_simp
         constructor
         ·rfl
         rfl
        clear hcv72
        refine hK.out _ _ (cel7 BK123.out) (fun hHeld => ?_)
        clear hK K
        refine n1 142 ?_
        exact norm_ (by simp only [putAll, Act.put, Za, Zb, Zc]) (hCont (v125) _ ⟨hHeld, (by refine rq ?_; exact Kd.R_mono HO126.out (fun _ hk => hk.1)), (by refine vq ?_; exact Zwa HO131.out (fun _ hk => ⟨hk.1.1, ⟨hk.2, ⟨hk.1.2.1, ⟨hk.1.2.2.1, hk.1.2.2.2⟩⟩⟩⟩)), (by refine vq ?_; exact Zwa HO_1.out (fun _ hk => ⟨hk.1.1, ⟨hk.2, ⟨hk.1.2.1, ⟨hk.1.2.2.1, hk.1.2.2.2⟩⟩⟩⟩)), (by refine nq ?_; exact Kd.N_mono HO_124006.out (fun _ hk => ⟨hk.1.1, ⟨hk.2, ⟨hk.1.2.1, hk.1.2.2⟩⟩⟩)), (kq BK101.out), (kq BK123.out), bq⟩)
       have hcv71 := Kd.C_string (P := Try.prog) (c := c1) Try.underlying28 Try.underlying5 Try.underlying9 (Zjb HO131.out).2.2
       refine value_ (w1 := ?_) (v := ?_) (by rfl) rfl ?_ ?_
       rotate_left 2
       ·go_simp
        constructor
        ·rfl
        rfl
       clear hcv71
       refine hK.out _ _ (cel7 BK123.out) (fun hHeld => ?_)
       clear hK K
       refine n1 142 ?_
       refine o1 HT_ 3 (some 138) (fun K hK => ?_)
       have hcv72 := own_string (P := Try.prog) Try.underlying28 Try.underlying5 Try.underlying9 (Kd.own_of_R HO126.out)
       refine value_ (w1 := ?_) (v := ?_) (by rfl) rfl ?_ ?_
       rotate_left 2
       ·go_simp
        constructor
        ·rfl
        rfl
       clear hcv72
       refine hK.out _ _ (cel7 BK123.out) (fun hHeld => ?_)
       clear hK K
       refine n1 138 ?_
       exact norm_ (by simp only [putAll, Act.put, Za, Zb, Zc]) (hCont (v125) _ ⟨hHeld, (by refine rq ?_; exact Kd.R_mono HO126.out (fun _ hk => hk.1)), (by refine vq ?_; exact Zwa HO131.out (fun _ hk => ⟨hk.1.1, ⟨hk.2, ⟨hk.1.2.1, ⟨hk.1.2.2.1, hk.1.2.2.2⟩⟩⟩⟩)), (by refine vq ?_; exact Zwa HO_1.out (fun _ hk => ⟨hk.1.1, ⟨hk.2, ⟨hk.1.2.1, ⟨hk.1.2.2.1, hk.1.2.2.2⟩⟩⟩⟩)), (by refine nq ?_; exact Kd.N_mono HO_124006.out (fun _ hk => ⟨hk.1.1, ⟨hk.2, ⟨hk.1.2.1, hk.1.2.2⟩⟩⟩)), (kq BK101.out), (kq BK123.out), bq⟩)
      have hcv70 := Kd.C_string (P := Try.prog) (c := c1) Try.underlying28 Try.underlying5 Try.underlying9 (Zjb HO131.out).2.2
      refine value_ (w1 := ?_) (v := ?_) (by rfl) rfl ?_ ?_
      rotate_left 2
      ·go_simp
       constructor
       ·rfl
       rfl
      clear hcv70
      refine hK.out _ _ (cel7 BK123.out) (fun hHeld => ?_)
      clear hK K
      refine n1 142 ?_
      refine o1 HT_ 2 (some 137) (fun K hK => ?_)
      refine goes_ Try.func56 (by kernel_rfl) rfl #[.slice A0 l0.length c0, .agg #[.int .i64 (wrap64 (t119)), .int .i64 (wrap64 (t107)), .bool vfi, .bool vla, .bool vco, .bool x124005_2, .slice Ao67 x124006_2.length co67]] (by rfl) rfl rfl (by (try simp only [Zdb, Zeb, Zfb]); first | done | rfl | (simp only [Zha, Zga]; rfl)) ?_
      with_reducible refine (psalteryref18_Write.calls _ _ l0 (wrap64 (t119)) (wrap64 (t107)) vfi vla vco x124005_2 _ _ x124006_2 t124 _ ?side1 ?side2 ?side3 ?side4 A63.out).mono ?_
      (case side1 => exact cq ((Kd.C_below HR0.out HB.out)))
      (case side2 => exact HC0.out)
      (case side3 => exact cq ((Zlb HO_124006.out).2.2))
      (case side4 => exact (Zlb HO_124006.out).2.1)
      rintro e w71 ⟨v125, rfl, ho0, hb⟩
      refine ⟨_, rfl, ?_⟩
      have n0_ := Zma (Kd.V_elder' (vq HO_1.out) (Kd.R_base ho0) hb)
      have n1_ := Zma (Kd.N_elder' (nq HO_124006.out) (Kd.R_base ho0) hb)
      have n2_ := Zma (Kd.V_elder' (vq HO131.out) (Kd.R_base ho0) hb)
      have n3_ := Zma (Zxa (Kd.R_newM (M := fun k_ => (w.heap.size ≤ k_)) ho0 (Zfa bq) (fun k_ h_ => h_)) (Zfa bq))
      have n4_ := Zma (Zab (g := gb101) (o := .cells #[.int .i64 x102000_2, .int .i64 x102001_2, .bool x102002_2, .bool x102003_2, .bool x102004_2, .bool x102005_2, .slice none 0 0] 50 (0, 0)) (kq BK101.out) hb)
      have n5_ := Zma (Zab (g := gb123) (o := .cells #[.int .i64 (wrap64 (t119)), .int .i64 (wrap64 (t107)), .bool vfi, .bool vla, .bool vco, .bool x124005_2, .slice Ao67 x124006_2.length co67] 50 (0, 0)) (kq BK123.out) hb)
      have n6_ := Zma (Zoa bq hb)
      clear HO_1 HO_124006 HO131 BK101 BK123 HB; have HO_1 := n0_; have HO_124006 := n1_; have HO131 := n2_; have HO126 := n3_; have BK101 := n4_; have BK123 := n5_; have HB := n6_; clear n0_ n1_ n2_ n3_ n4_ n5_ n6_
      (try clear hb)
      (try clear ho0)
      refine hK.out _ _ (cel7 BK123.out) (fun hHeld => ?_)
      clear hK K
      refine n1 137 ?_
      refine o1 HT_ 3 (some 138) (fun K hK => ?_)
      have hcv72 := own_string (P := Try.prog) Try.underlying28 Try.underlying5 Try.underlying9 (Kd.own_of_R HO126.out)
      refine value_ (w1 := ?_) (v := ?_) (by rfl) rfl ?_ ?_
      rotate_left 2
      ·go_simp
       constructor
       ·rfl
       rfl
      clear hcv72
      refine hK.out _ _ (cel7 BK123.out) (fun hHeld => ?_)
      clear hK K
      refine n1 138 ?_
      exact norm_ (by simp only [putAll, Act.put, Za, Zb, Zc]) (hCont (v125) _ ⟨hHeld, (by refine rq ?_; exact Kd.R_mono HO126.out (fun _ hk => hk.1)), (by refine vq ?_; exact Zwa HO131.out (fun _ hk => ⟨hk.1.1, ⟨hk.2, ⟨hk.1.2.1, ⟨hk.1.2.2.1, hk.1.2.2.2⟩⟩⟩⟩)), (by refine vq ?_; exact Zwa HO_1.out (fun _ hk => ⟨hk.1.1, ⟨hk.2, ⟨hk.1.2.1, ⟨hk.1.2.2.1, hk.1.2.2.2⟩⟩⟩⟩)), (by refine nq ?_; exact Kd.N_mono HO_124006.out (fun _ hk => ⟨hk.1.1, ⟨hk.2, ⟨hk.1.2.1, hk.1.2.2⟩⟩⟩)), (kq BK101.out), (kq BK123.out), bq⟩)
     rintro v125 w73 ⟨hS_, h0_, h1_, h2_, h3_, h4_, h5_, h6_⟩
     have n0_ : Aside0 (Kd.R (Kd.int .u8) 5 w73 w.heap.size (fun k_ => (w.heap.size ≤ k_)) v125 t124) := ⟨h0_⟩
     have n1_ : Aside0 (Kd.V (Kd.int .u8) 5 w73 w.heap.size (fun k_ => (P1_ k_ ∨ w.heap.size ≤ k_) ∧ some k_ ≠ (v125 : Value).ownBlock ∧ some k_ ≠ (.slice Ao67 x124006_2.length co67 : Value).ownBlock ∧ k_ ≠ gb101 ∧ k_ ≠ gb123) (.slice (some ad113) y127.length c1) y127) := ⟨h1_⟩
     have n2_ : Aside0 (Kd.V (Kd.int .u8) 5 w73 w.heap.size (fun k_ => (P1_ k_ ∨ w.heap.size ≤ k_) ∧ some k_ ≠ (v125 : Value).ownBlock ∧ some k_ ≠ (.slice Ao67 x124006_2.length co67 : Value).ownBlock ∧ k_ ≠ gb101 ∧ k_ ≠ gb123) (.slice (some ad113) l1.length c1) l1) := ⟨h2_⟩
     have n3_ : Aside0 (Kd.N (Kd.slice 5 (Kd.int .u8)) 28 w73 w.heap.size (fun k_ => (P1_ k_ ∨ w.heap.size ≤ k_) ∧ some k_ ≠ (v125 : Value).ownBlock ∧ k_ ≠ gb101 ∧ k_ ≠ gb123) (.slice Ao67 x124006_2.length co67) x124006_2) := ⟨h3_⟩
     have n4_ : Aside0 (w73.heap[gb101]? = some (.cells #[.int .i64 x102000_2, .int .i64 x102001_2, .bool x102002_2, .bool x102003_2, .bool x102004_2, .bool x102005_2, .slice none 0 0] 50 (0, 0))) := ⟨h4_⟩
     have n5_ : Aside0 (w73.heap[gb123]? = some (.cells #[.int .i64 (wrap64 (t119)), .int .i64 (wrap64 (t107)), .bool vfi, .bool vla, .bool vco, .bool x124005_2, .slice Ao67 x124006_2.length co67] 50 (0, 0))) := ⟨h5_⟩
     have n6_ : Aside0 (Below w.heap.size w w73) := ⟨h6_⟩
     clear HO_1 HO_124006 BK101 BK123 HB h0_ h1_ h2_ h3_ h4_ h5_ h6_; have HO126 := n0_; have HO131 := n1_; have HO_1 := n2_; have HO_124006 := n3_; have BK101 := n4_; have BK123 := n5_; have HB := n6_; clear n0_ n1_ n2_ n3_ n4_ n5_ n6_
     have hHeld : w73.cell? ⟨gb123, 0, none⟩ = some (.int .i64 (wrap64 (t119))) ∧ w73.cell? ⟨gb123, 1, none⟩ = some (.int .i64 (wrap64 (t107))) ∧ w73.cell? ⟨gb123, 2, none⟩ = some (.bool vfi) ∧ w73.cell? ⟨gb123, 3, none⟩ = some (.bool vla) ∧ w73.cell? ⟨gb123, 4, none⟩ = some (.bool vco) ∧ w73.cell? ⟨gb123, 5, none⟩ = some (.bool x124005_2) ∧ w73.cell? ⟨gb123, 6, none⟩ = some (.slice Ao67 x124006_2.length co67) := hS_
     refine n2 ?_
     refine p1 HT_ 8 143 ?_
     refine done_ (done_of HT_.out (by kernel_rfl)) ?_
     have H := HMg_.out
     clear HMg_
     by_cases c66 : (strOfNums t124).toList = (strOfNums y127).toList
     ·rw [if_pos c66] at H
      have c66b0 : ((strOfNums t124).toList == (strOfNums y127).toList) = true := beq_iff_eq.mpr c66
      have c66b1 : ((strOfNums t124).toList != (strOfNums y127).toList) = false := bne_eq_false_iff_eq.mpr c66; have c66b2 : (!((strOfNums t124).toList == (strOfNums y127).toList)) = false := congrArg not c66b0; rw [c66b2]
      clear c66
      simp only [Zib, Zhb] at H
      obtain ⟨rfl, rfl, rfl, rfl, rfl, rfl, rfl, rfl, rfl⟩ := H
      have hnb74 := NB123_101.out
      have hnc74 := NB101_123.out
      obtain ⟨hcz75_0, hcz75_1, hcz75_2, hcz75_3, hcz75_4, hcz75_5, hcz75_6, hfz75_0, hfz75_1, hfz75_2, hfz75_3, hfz75_4, hfz75_5, hfz75_6⟩ := blk7 BK123.out
      obtain ⟨hcz76_0, hcz76_1, hcz76_2, hcz76_3, hcz76_4, hcz76_5, hcz76_6, hfz76_0, hfz76_1, hfz76_2, hfz76_3, hfz76_4, hfz76_5, hfz76_6⟩ := blk7 BK101.out
      try go_wp2
      refine bodyPost_ret (Zta rfl _ _ gb101 50 #[.int .i64 (wrap64 (t119)), .int .i64 (wrap64 (t107)), .bool vfi, .bool vla, .bool vco, .bool x124005_2, .slice Ao67 x124006_2.length co67] (0, 0) _ rfl (by refine kq ?_; exact put7 (kq BK101.out)) Try.underlying50 rfl (by kernel_rfl)) rfl ?_
      exact ⟨_, by first | rfl | (simp [errW_none, errW_some] <;> rfl) | (simp [*, errW_none, errW_some] <;> rfl), by refine nq ?_; exact Kd.N_mono (Kd.N_far (p := ⟨gb101, 6, none⟩) (Kd.N_far (p := ⟨gb101, 5, none⟩) (Kd.N_far (p := ⟨gb101, 4, none⟩) (Kd.N_far (p := ⟨gb101, 3, none⟩) (Kd.N_far (p := ⟨gb101, 2, none⟩) (Kd.N_far (p := ⟨gb101, 1, none⟩) (Kd.N_far (p := ⟨gb101, 0, none⟩) (Kd.N_mono HO_124006.out (fun k_ hk => (⟨hk, hk.2.2.1⟩ : _ ∧ k_ ≠ gb101))) (fun _ hk => hk.2) (.int .i64 (wrap64 (t119)))) (fun _ hk => hk.2) (.int .i64 (wrap64 (t107)))) (fun _ hk => hk.2) (.bool vfi)) (fun _ hk => hk.2) (.bool vla)) (fun _ hk => hk.2) (.bool vco)) (fun _ hk => hk.2) (.bool x124005_2)) (fun _ hk => hk.2) (.slice Ao67 x124006_2.length co67)) (fun _ hk => hk.1.1), bq⟩
     rw [if_neg c66] at H
     have c66b0 : ((strOfNums t124).toList == (strOfNums y127).toList) = false := beq_eq_false_iff_ne.mpr c66
     have c66b1 : ((strOfNums t124).toList != (strOfNums y127).toList) = true := bne_iff_ne.mpr c66; have c66b2 : (!((strOfNums t124).toList == (strOfNums y127).toList)) = true := congrArg not c66b0; rw [c66b2]
     simp only [Zib, Zhb] at H
     obtain ⟨rfl, rfl, rfl, rfl, rfl, rfl, rfl, rfl, rfl⟩ := H
     have hnb84 := NB101_123.out
     have hnc84 := NB123_101.out
     obtain ⟨hcz85_0, hcz85_1, hcz85_2, hcz85_3, hcz85_4, hcz85_5, hcz85_6, hfz85_0, hfz85_1, hfz85_2, hfz85_3, hfz85_4, hfz85_5, hfz85_6⟩ := blk7 BK101.out
     try go_wp2
     refine bodyPost_ret (Zta rfl _ _ gb101 50 #[.int .i64 0, .int .i64 0, .bool false, .bool false, .bool false, .bool false, .slice none 0 0] (0, 0) _ rfl (by refine kq ?_; exact put7 (kq BK101.out)) Try.underlying50 rfl (by kernel_rfl)) rfl ?_
     exact ⟨_, by first | rfl | (simp [errW_none, errW_some] <;> rfl) | (simp [*, errW_none, errW_some] <;> rfl), by first | exact Kd.S_nil _ _ _ _ _ | exact Kd.N_nil _ _ _ _ _ | exact Kd.V_nil _ _ _ _ _ | exact Kd.Q_nil _ _ _ _ _ | exact Kd.R_nil _ _ _ _ _, bq⟩

def psalteryref18_Read.f (t b : List Int) : Option (Int × Int × Bool × Bool × Bool × Bool × (List (List Int)) × Int × Int) := if okB b ∧ b.length ≤ 5000 ∧ t.length = 256 then some (readP t b) else none
theorem ref_flags (x : Int) (h0 : 0 ≤ x) (h1 : x < 8) : ((((Int.tdiv x 2) % 256) % 2) == 1) = decide (x / 2 % 2 = 1) ∧ (((Int.tdiv x 4) % 256) == 1) = decide (x / 4 % 2 = 1) ∧ ((Int.tmod x 2) == 1) = decide (x % 2 = 1) := by
  have : ∀ n : Fin 8, ((((Int.tdiv (n.val : Int) 2) % 256) % 2) == 1) = decide ((n.val : Int) / 2 % 2 = 1) ∧ (((Int.tdiv (n.val : Int) 4) % 256) == 1) = decide ((n.val : Int) / 4 % 2 = 1) ∧ ((Int.tmod (n.val : Int) 2) == 1) = decide ((n.val : Int) % 2 = 1) := by decide +kernel
  obtain ⟨n, rfl⟩ := Int.eq_ofNat_of_zero_le h0
  exact this ⟨n, by omega⟩
theorem rd_drop57 (l : List Int) (j : Nat) (hj : j < l.length) : l.drop j = rd l (j : Int) :: l.drop (j + 1) := by
  rw [List.drop_eq_getElem_cons hj]
  unfold rd
  rw [Int.toNat_natCast, List.getD_eq_getElem?_getD, List.getElem?_eq_getElem hj]
  rfl
theorem partsGo_o (l b : List Int) (n : Nat) (o : Bool) (h : l ≠ []) : partsGo l b n o = partsGo l b n false := by
  cases l with
  | nil => exact absurd rfl h
  | cons x l => rw [partsGo, partsGo]
theorem psalteryref18_Read_end {t b : List Int} (G : GoodB t b) (k : Nat) (at_ n : Int) (parts : List (List Int)) (more : Bool) (hat : at_ = (endP b : Int)) (hp : partsB b = (parts, more)) : psalteryref18_Read_raw.l0 (k + 1) t b (manyP b : Int) at_ n (manyP b : Int) (seqB b) (granB b) (fiB b) (laB b) (coB b) more parts = some (readP t b) := by
  have hw := G.writes
  have hf := G.final
  have hend := G.hend
  rw [hp] at hw hf
  subst hat
  rw [psalteryref18_Read_raw.l0, if_neg (Int.lt_irrefl _), hw, Zsa, if_pos (show (0 : Int) ≤ (endP b : Int) by omega), if_pos (show (endP b : Int) ≤ (b.length : Int) by omega), Int.toNat_natCast]
  exact hf
theorem psalteryref18_Read_go (t b : List Int) (ht : t.length = 256) (hb : okB b) (hn : b.length ≤ 5000) (h22 : 22 ≤ b.length) (hm : magic4 b = true) (h8 : rd b 4 < 8) (hg : granB b ≤ 4611686018427387904) (hmany : 22 + manyP b ≤ b.length) :
    ∀ (d i at_ n : Nat) (more : Bool) (parts : List (List Int)), i ≤ manyP b → manyP b - i = d → at_ + n + sumL ((lacesP b).drop i) = endP b → at_ ≤ b.length → parts.length ≤ i →
    ((i < manyP b ∧ partsB b = (parts ++ (partsGo ((lacesP b).drop i) (b.drop at_) n false).1, (partsGo ((lacesP b).drop i) (b.drop at_) n false).2)) ∨ (i = manyP b ∧ n = 0 ∧ partsB b = (parts, more))) →
    Ev (fun k => psalteryref18_Read_raw.l0 k t b (manyP b : Int) (at_ : Int) (n : Int) (i : Int) (seqB b) (granB b) (fiB b) (laB b) (coB b) more parts) (readP t b) := by
  obtain ⟨L, ll⟩ : ∃ L, lacesP b = L := ⟨_, rfl⟩
  have hLl : L.length = manyP b := by rw [← ll]; exact lacesP_length b hmany
  have hokL : okB L := by rw [← ll]; exact okB_drop (okB_take hb _) _
  have h255 := (manyB b hb h22).2
  have hsl := sumL_le L hokL
  have hE : endP b = 22 + manyP b + sumL L := by rw [← ll]; rfl
  have hZ : b.length < endP b → readP t b = readZ 4 := fun hlt => by
    unfold readP
    rw [if_neg (show ¬ b.length < 22 by omega), if_neg, if_neg (show ¬ b.length < 22 + manyP b by omega), if_pos hlt]
    rintro (h | h | h)
    · rw [hm] at h; cases h
    · omega
    · exact absurd h (by unfold granB at hg; omega)
  rw [ll]
  intro d
  induction d with
  | zero =>
    intro i at_ n more parts hi hd he ha hpl hp
    obtain rfl : i = manyP b := by omega
    rcases hp with ⟨h, _⟩ | ⟨_, hn0, hp⟩
    · exact absurd h (Nat.lt_irrefl _)
    subst hn0
    rw [← hLl, List.drop_length, sumL] at he
    have hat : at_ = endP b := by omega
    have G : GoodB t b := ⟨ht, hb, hn, h22, hm, h8, hg, hmany, by omega⟩
    exact Ev.step (f := fun _ => some (readP t b)) (fun k => psalteryref18_Read_end G k _ _ parts more (by rw [hat]) hp) (Ev.now _)
  | succ d ih =>
    intro i at_ n more parts hi hd he ha hpl hp
    have hi1 : i < L.length := by omega
    have hpp : partsB b = (parts ++ (partsGo (L.drop i) (b.drop at_) n false).1, (partsGo (L.drop i) (b.drop at_) n false).2) := by
      rcases hp with ⟨_, h⟩ | ⟨h, _⟩
      · exact h
      · omega
    clear hp
    have hr := rd_mem hokL (i : Int) (by omega)
    have hrb : rd b ((22 + i : Nat) : Int) = rd L (i : Int) := by
      rw [← ll]
      unfold rd lacesP
      rw [Int.toNat_natCast, Int.toNat_natCast, List.getD_eq_getElem?_getD, List.getD_eq_getElem?_getD, List.getElem?_drop, List.getElem?_take_of_lt (by omega)]
    rw [rd_drop57 L i hi1] at he hpp
    rw [sumL] at he
    rw [partsGo] at hpp
    obtain ⟨x, hxx⟩ := Int.eq_ofNat_of_zero_le hr.1
    rw [hxx] at he hr hpp hrb
    rw [Int.toNat_natCast] at he hpp
    have f1A : Aside0 (wrap64 (22 + (i : Int)) = ((22 + i : Nat) : Int)) := ⟨wadd 22 i (by omega)⟩
    have f2A : Aside0 (wrap64 ((i : Int) + 1) = ((i + 1 : Nat) : Int)) := ⟨wsucc i (by omega)⟩
    have f3A : Aside0 (wrap64 (x : Int) = (x : Int)) := ⟨wid x (by omega)⟩
    have f4A : Aside0 (wrap64 ((n : Int) + (x : Int)) = ((n + x : Nat) : Int)) := ⟨wadd n x (by omega)⟩
    have f5A : Aside0 (wrap64 ((at_ : Int) + ((n + x : Nat) : Int)) = ((at_ + (n + x) : Nat) : Int)) := ⟨wadd at_ (n + x) (by omega)⟩
    -- the part's end
    have put (m : Bool) (hq : at_ + (n + x) ≤ b.length → (i + 1 < manyP b ∧ partsB b = (parts ++ [(b.drop at_).take (n + x)] ++ (partsGo (L.drop (i + 1)) (b.drop (at_ + (n + x))) 0 false).1, (partsGo (L.drop (i + 1)) (b.drop (at_ + (n + x))) 0 false).2)) ∨ (i + 1 = manyP b ∧ (0 : Nat) = 0 ∧ partsB b = (parts ++ [(b.drop at_).take (n + x)], m))) :
        Ev (fun k => psalteryref18_Read_raw.j2 k t b (manyP b : Int) (at_ : Int) ((n + x : Nat) : Int) (i : Int) false (seqB b) (granB b) (fiB b) (laB b) (coB b) m parts) (readP t b) := by
      by_cases hlt : b.length < at_ + (n + x)
      · rw [hZ (by omega)]
        refine Ev.step (f := fun _ => some (readZ 4)) (fun k => ?_) (Ev.now _)
        rw [psalteryref18_Read_raw.j2, if_neg (by simp), f5A.out, if_pos (by omega)]
        rfl
      · refine Ev.step (fun k => ?_) (ih (i + 1) (at_ + (n + x)) 0 m (parts ++ [(b.drop at_).take (n + x)]) (by omega) (by omega) (by omega) (by omega) (by rw [List.length_append]; simp only [List.length_cons, List.length_nil]; omega) (hq (by omega)))
        rw [psalteryref18_Read_raw.j2, if_neg (by simp), f5A.out, f2A.out, if_neg (by omega), if_pos (by omega), if_pos (by omega), if_pos (by omega), if_pos (by omega), Int.toNat_natCast, Int.toNat_natCast, List.drop_take, show at_ + (n + x) - at_ = n + x by omega]
        rfl
    by_cases hx : (x : Int) = 255
    · rw [if_pos hx] at hpp
      by_cases hl : i + 1 < manyP b
      · have hne : L.drop (i + 1) ≠ [] := fun h => by
          have := congrArg List.length h
          rw [Zha, List.length_nil] at this
          omega
        rw [partsGo_o _ _ _ true hne] at hpp
        refine Ev.step (f := fun k => psalteryref18_Read_raw.j2 k t b (manyP b : Int) (at_ : Int) ((n + x : Nat) : Int) (i : Int) true (seqB b) (granB b) (fiB b) (laB b) (coB b) true parts) (fun k => ?_) (Ev.step (fun k => ?_) (ih (i + 1) at_ (n + x) true parts (by omega) (by omega) (by omega) ha (by omega) (.inl ⟨hl, hpp⟩)))
        · rw [psalteryref18_Read_raw.l0, if_pos (by omega), f1A.out, if_pos (by omega), if_pos (by omega), hrb, f3A.out, if_pos hx, f4A.out, f2A.out, Zn (by omega), hx]
          rfl
        · rw [psalteryref18_Read_raw.j2, if_pos rfl, f2A.out]
      · have hnil : L.drop (i + 1) = [] := List.drop_eq_nil_of_le (by omega)
        rw [hnil, partsGo, if_pos rfl] at hpp
        refine Ev.step (fun k => ?_) (put true (fun _ => .inr ⟨by omega, rfl, hpp⟩))
        rw [psalteryref18_Read_raw.l0, if_pos (by omega), f1A.out, if_pos (by omega), if_pos (by omega), hrb, f3A.out, if_pos hx, f4A.out, f2A.out, Zna (by omega), hx]
        rfl
    · rw [if_neg hx] at hpp
      have hxb : ((x : Int) == 255) = false := beq_false_of_ne hx
      refine Ev.step (fun k => ?_) (put false (fun _ => ?_))
      · rw [psalteryref18_Read_raw.l0, if_pos (by omega), f1A.out, if_pos (by omega), if_pos (by omega), hrb, f3A.out, if_neg hx, f4A.out, hxb]
      · rw [List.drop_drop] at hpp
        by_cases hl : i + 1 < manyP b
        · refine .inl ⟨hl, ?_⟩
          rw [hpp, List.append_assoc]
          rfl
        · have hnil : L.drop (i + 1) = [] := List.drop_eq_nil_of_le (by omega)
          rw [hnil, partsGo, if_neg (by simp)] at hpp
          exact .inr ⟨by omega, rfl, hpp⟩
theorem psalteryref18_Read.of {t b : List Int} {r : Int × Int × Bool × Bool × Bool × Bool × (List (List Int)) × Int × Int} (h : psalteryref18_Read.f t b = some r) : ∃ k, psalteryref18_Read_raw.f k t b = some r := by
  unfold psalteryref18_Read.f at h
  split at h
  case isFalse => cases h
  case isTrue hs =>
    obtain ⟨hb, hn, ht⟩ := hs
    injection h with h
    subst h
    refine Ev.rounds ?_
    unfold psalteryref18_Read_raw.f
    by_cases h22 : b.length < 22
    · have e : readP t b = readZ 4 := by unfold readP; rw [if_pos h22]
      rw [e]
      simp only [if_pos (show (b.length : Int) < 22 by omega)]
      exact Ev.now _
    · have hv8 : psalteryref18_value.f ((b.take 13).drop 5) = some (granB b) := by
        unfold psalteryref18_value.f granB
        exact if_pos ⟨okB_drop (okB_take hb _) _, by rw [Zha, Zga]; omega⟩
      have hv4 : psalteryref18_value.f ((b.take 17).drop 13) = some (seqB b) := by
        unfold psalteryref18_value.f seqB
        exact if_pos ⟨okB_drop (okB_take hb _) _, by rw [Zha, Zga]; omega⟩
      have hT : Ev (fun k => psalteryref18_Read_raw.j0 k t b (granB b) true) (readZ 2) := Ev.step (f := fun _ => some (readZ 2)) (fun k => by rw [psalteryref18_Read_raw.j0, if_pos rfl]; rfl) (Ev.now _)
      have hmg := magic_of b hb (by omega)
      have hr4 := rdB b hb 4 (by omega)
      rw [show ((4 : Nat) : Int) = 4 from rfl] at hr4
      have hbadE : (magic4 b = false ∨ rd b 4 ≥ 8 ∨ valI ((b.take 13).drop 5) > 4611686018427387904) → readP t b = readZ 2 := fun hbad => by unfold readP; rw [if_neg h22, if_pos hbad]
      simp only [if_neg (show ¬ (b.length : Int) < 22 by omega), if_pos (show (5 : Nat) ≤ 13 by omega), if_pos (show (13 : Int) ≤ (b.length : Int) by omega), hv8, Zsa, if_pos (show (0 : Int) < (b.length : Int) by omega), if_pos (show (1 : Int) < (b.length : Int) by omega), if_pos (show (2 : Int) < (b.length : Int) by omega), if_pos (show (3 : Int) < (b.length : Int) by omega), if_pos (show (4 : Int) < (b.length : Int) by omega)]
      by_cases q0 : rd b 0 = 80
      case neg =>
        simp only [if_neg q0]
        rw [hbadE (.inl (by rw [hmg]; exact Zna (fun h => q0 h.1)))]
        exact hT
      by_cases q1 : rd b 1 = 83
      case neg =>
        simp only [if_pos q0, if_neg q1]
        rw [hbadE (.inl (by rw [hmg]; exact Zna (fun h => q1 h.2.1)))]
        exact hT
      by_cases q2 : rd b 2 = 76
      case neg =>
        simp only [if_pos q0, if_pos q1, if_neg q2]
        rw [hbadE (.inl (by rw [hmg]; exact Zna (fun h => q2 h.2.2.1)))]
        exact hT
      by_cases q3 : rd b 3 = 84
      case neg =>
        simp only [if_pos q0, if_pos q1, if_pos q2, if_neg q3]
        rw [hbadE (.inl (by rw [hmg]; exact Zna (fun h => q3 h.2.2.2)))]
        exact hT
      by_cases q4 : rd b 4 > 7
      · simp only [if_pos q0, if_pos q1, if_pos q2, if_pos q3, if_pos q4]
        rw [hbadE (.inr (.inl (by omega)))]
        exact hT
      simp only [if_pos q0, if_pos q1, if_pos q2, if_pos q3, if_neg q4]
      by_cases q5 : granB b > 4611686018427387904
      · simp only [Zn q5]
        rw [hbadE (.inr (.inr q5))]
        exact hT
      simp only [Zna q5]
      have hm : magic4 b = true := by rw [hmg]; exact Zn ⟨q0, q1, q2, q3⟩
      have h255 := manyB b hb (by omega)
      have e1A : Aside0 (wrap64 (rd b 21) = (manyP b : Int)) := ⟨by rw [← h255.1]; exact wid _ (by omega)⟩
      have e2A : Aside0 (wrap64 (22 + (manyP b : Int)) = ((22 + manyP b : Nat) : Int)) := ⟨wadd 22 (manyP b) (by omega)⟩
      by_cases hmany : b.length < 22 + manyP b
      · have e : readP t b = readZ 4 := by
          unfold readP
          rw [if_neg h22, if_neg, if_pos hmany]
          rintro (h | h | h)
          · rw [hm] at h; cases h
          · omega
          · exact q5 h
        rw [e]
        refine Ev.step (f := fun _ => some (readZ 4)) (fun k => ?_) (Ev.now _)
        rw [psalteryref18_Read_raw.j0, if_neg (by simp), if_pos (by omega), e1A.out, e2A.out, if_pos (by omega)]
        rfl
      · have hfl := ref_flags (rd b 4) hr4.1 (by omega)
        have hs4 : 0 ≤ seqB b ∧ seqB b < 4294967296 := by
          have s1 := valI_nonneg (okB_drop (okB_take hb 17) 13)
          have s2 := valI_lt (okB_drop (okB_take hb 17) 13)
          have p4 : (2 : Int) ^ (8 * 4) = 4294967296 := by decide
          rw [Zha, Zga, show min 17 b.length - 13 = 4 by omega, p4] at s2
          exact ⟨s1, s2⟩
        have hg0 : 0 ≤ granB b := valI_nonneg (okB_drop (okB_take hb 13) 5)
        have e3A : Aside0 (wrap64 (seqB b) = seqB b) := ⟨wrap64_of (by omega) (by omega)⟩
        have e4A : Aside0 (wrap64 (granB b) = granB b) := ⟨wrap64_of (by omega) (by omega)⟩
        have hE : endP b = 22 + manyP b + sumL (lacesP b) := rfl
        have hll := lacesP_length b (by omega)
        refine Ev.step (fun k => ?_) (psalteryref18_Read_go t b ht hb hn (by omega) hm (by omega) (by omega) (by omega) (manyP b) 0 (22 + manyP b) 0 false [] (by omega) (by omega) (by rw [List.drop_zero]; omega) (by omega) (by simp) ?_)
        · rw [psalteryref18_Read_raw.j0, if_neg (by simp), if_pos (by omega), e1A.out, e2A.out, if_neg (by omega), if_pos (by omega), if_pos (by omega), hv4, Zsa, if_pos (by omega), e3A.out, e4A.out, hfl.1, hfl.2.1, hfl.2.2]
          rfl
        · rw [List.drop_zero]
          by_cases h0 : manyP b = 0
          · refine .inr ⟨h0.symm, rfl, ?_⟩
            have hnil : lacesP b = [] := List.length_eq_zero_iff.mp (by omega)
            unfold partsB
            rw [hnil, partsGo, if_neg (by simp)]
          · exact .inl ⟨by omega, rfl⟩
theorem psalteryref18_Read.calls (A0 : Option Addr) (c0 : Nat) (l0 : List Int) (P1_ : Nat → Prop) (A1 : Option Addr) (c1 : Nat) (l1 : List Int) (r1 : Int) (r2 : Int) (r3 : Bool) (r4 : Bool) (r5 : Bool) (r6 : Bool) (r7 : List (List Int)) (r8 : Int) (r9 : Int) (w : World) (hr0 : Kd.C (Kd.int .u32) w A0 l0.length l0) (hc0 : l0.length ≤ c0) (hs1 : Kd.V (Kd.int .u8) 5 w w.heap.size (fun k_ => P1_ k_) (.slice A1 l1.length c1) l1) (h : psalteryref18_Read.f l0 l1 = some (r1, r2, r3, r4, r5, r6, r7, r8, r9)) :
  Calls Try.prog 57 #[.slice A0 l0.length c0, .slice A1 l1.length c1] w fun e w' => ∃ v6_ : Value, e = .returned (.tuple #[.agg #[.int .i64 r1, .int .i64 r2, .bool r3, .bool r4, .bool r5, .bool r6, v6_], .int .i64 r8, .int .i64 r9]) ∧ Kd.N (Kd.slice 5 (Kd.int .u8)) 28 w' w.heap.size (fun k_ => (P1_ k_ ∨ w.heap.size ≤ k_)) v6_ r7 ∧ Below w.heap.size w w' := by
  obtain ⟨k, hk⟩ := psalteryref18_Read.of h
  exact psalteryref18_Read_raw.calls k A0 c0 l0 P1_ A1 c1 l1 r1 r2 r3 r4 r5 r6 r7 r8 r9 w hr0 hc0 hs1 hk

end Go.Proofs.Yteoclecadpapfaa.G
