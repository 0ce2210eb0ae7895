/- What a call of psaltery/psalterylaw18.PageJoins does, told by a plain Lean function of its arguments. Written by a program for this claim. -/
import Derived.Test.YteoclecadpapfaaG0
import Derived.Test.YteoclecadpapfaaG32
import Derived.Test.YteoclecadpapfaaG33
import Derived.Test.YteoclecadpapfaaG36
import Derived.Test.YteoclecadpapfaaG37
import Derived.Test.YteoclecadpapfaaG38
import Derived.Test.YteoclecadpapfaaG58
import Derived.Test.YteoclecadpapfaaM23
namespace Go.Proofs.Yteoclecadpapfaa.G
open Go.RowKit Go.Proofs.YteoclecadpapfaaW.PrintWords Go.Proofs.YteoclecadpapfaaW.PrintLast Go.Proofs.YteoclecadpapfaaW.PrintMore
attribute [local go_sem] max2_int min2_int max_two min_two max_three min_three max_four min_four
set_option linter.unusedVariables false
set_option linter.unusedSimpArgs false

/-! ### psalterylaw18_PageJoins: function 20 -/
def psalterylaw18_PageJoins.l0 : Nat → List (S43) → List (S50) → Int → Option (Bool)
 | 0, _, _, _ => none
 | k + 1, x0, x3, x4 => if x4 < (x0.length : Int) then (if 0 ≤ x4 then ((psalterylaw18_great.f ((rd_T43 x0 x4).f0) ((rd_T43 x0 x4).f1) ((rd_T43 x0 x4).f2) ((rd_T43 x0 x4).f3) ((rd_T43 x0 x4).f4) ((rd_T43 x0 x4).f5) ((rd_T43 x0 x4).f6)).bind fun t103 => (if t103 = true then ((psalterylaw18_knows.f).bind fun t104 => (some t104)) else ((psalterylaw18_As.f ((rd_T43 x0 x4).f0) ((rd_T43 x0 x4).f1) ((rd_T43 x0 x4).f2) ((rd_T43 x0 x4).f3) ((rd_T43 x0 x4).f4) ((rd_T43 x0 x4).f5) ((rd_T43 x0 x4).f6)).bind fun _ => (if x3.length < 2932031007402 then (psalterylaw18_PageJoins.l0 k x0 (x3 ++ [(⟨(rd_T43 x0 x4).f0, (rd_T43 x0 x4).f1, (rd_T43 x0 x4).f2, (rd_T43 x0 x4).f3, (rd_T43 x0 x4).f4, (rd_T43 x0 x4).f5, (rd_T43 x0 x4).f6⟩ : S50)]) (wrap64 (x4 + 1))) else (none))))) else (none)) else ((page_Join.f x0).bind fun bt109 => ((psalteryref18_Join.f x3).bind fun bt113 => ((psalteryref18_SameBytes.f bt109.1 bt113.1).bind fun t117 => (if t117 = true then (if bt109.2 = bt113.2 then ((psalterylaw18_knows.f).bind fun t118 => (some t118)) else (some false)) else (some false)))))
def psalterylaw18_PageJoins.f (k : Nat) (l0 : List (S43)) : Option (Bool) := if (l0.length : Int) > 20 then ((psalterylaw18_knows.f).bind fun t101 => (some t101)) else (psalterylaw18_PageJoins.l0 k l0 ([] : List (S50)) 0)
set_option maxHeartbeats 8000000 in
set_option maxRecDepth 100000 in
theorem psalterylaw18_PageJoins.calls (k : Nat) (P0_ : Nat → Prop) (A0 : Option Addr) (c0 : Nat) (l0 : List (S43)) (r : Bool) (w : World) (hs0 : Kd.V k43 43 w w.heap.size (fun k_ => P0_ k_) (.slice A0 l0.length c0) l0) (h : psalterylaw18_PageJoins.f k l0 = some r) :
  Calls Try.prog 20 #[.slice A0 l0.length c0] w fun e w' => e = .returned (.bool r) ∧ Below w.heap.size w w' := by
 have hu43 := Try.underlying43
 have HO0 := Zma (show Kd.V k43 43 w w.heap.size (fun k_ => (P0_ k_ ∨ w.heap.size ≤ k_)) (.slice A0 l0.length c0) l0 from Zwa hs0 (fun k_ hk => .inl hk))
 have HB := Zma (Below.refl w.heap.size w)
 have H : (if (l0.length : Int) > 20 then ((psalterylaw18_knows.f).bind fun t101 => (some t101)) else (psalterylaw18_PageJoins.l0 k l0 ([] : List (S50)) 0)) = some r := h
 clear h
 by_cases c2 : (l0.length : Int) > 20
 ·rw [if_pos c2] at H
  have c2b0 : decide (20 < (l0.length : Int)) = true := Zn c2
  have c2b1 : decide (20 < l0.length) = true := Zn (by omega)
  clear c2
  replace H := Option.bind_eq_some_iff.mp H
  obtain ⟨t101, A30, H⟩ := H
  replace H : (some t101) = some r := H
  have A3 := Zma A30
  clear A30
  obtain rfl := Zgb H
  go_enter Try.func20, Try.ntmps20
  go_wp2_with (first | ((with_reducible refine gate_callee (f := 33) rfl ?_); refine goesL_ (some 12) rfl rfl Try.func33 (by kernel_rfl) rfl #[] rfl (by (try simp only [Zdb, Zeb, Zfb]); first | done | rfl | (simp only [Zha, Zga]; rfl)) ?_; (with_reducible refine (psalterylaw18_knows.calls  t101 _ A3.out).mono ?_); rintro e w4 ⟨rfl, hb⟩; refine ⟨_, rfl, ?_⟩; have n0_ := Zma (Zya (by (with_reducible repeat (first | apply Zv | apply Zu | apply Zw)); exact HO0.out) hb); have n1_ := Zma (Zoa (by repeat (first | (with_reducible first | exact HB.out | apply Zi | apply Ze | apply Zla) | exact HB.out)) hb); clear HO0 HB; have HO0 := n0_; have HB := n1_; clear n0_ n1_; (try clear hb); (try clear hb2); (try clear hk); (try clear hi)))
  go_ret
  exact ⟨by first | rfl | (simp [errW_none, errW_some] <;> rfl) | (simp [*, errW_none, errW_some] <;> rfl), by repeat (first | (with_reducible first | exact HB.out | apply Zi | apply Ze | apply Zla) | exact HB.out)⟩
 rw [if_neg c2] at H
 have c2b0 : decide (20 < (l0.length : Int)) = false := Zna c2
 have c2b1 : decide (20 < l0.length) = false := Zna (by omega)
 clear c2
 have H' := Zma H
 clear H
 go_enter Try.func20, Try.ntmps20
 go_wp2
 go_loopg [3, 4] k (fun kq v3 v4 w' => ∃ (x3_1 : List (S50)) (x4_1 : Int), v4 = .int .i64 x4_1 ∧ Aside0 (psalterylaw18_PageJoins.l0 kq l0 x3_1 x4_1 = some r) ∧ Aside0 (kq ≤ k) ∧ Aside0 (Kd.V k43 43 w' w.heap.size (fun k_ => (P0_ k_ ∨ w.heap.size ≤ k_) ∧ some k_ ≠ (v3 : Value).ownBlock) (.slice A0 l0.length c0) l0) ∧ Aside0 (Kd.N k50 50 w' w.heap.size (fun k_ => (P0_ k_ ∨ w.heap.size ≤ k_)) v3 x3_1) ∧ Aside0 (Below w.heap.size w w'))
 case atStart => exact ⟨(([] : List (S50))), (0), (by first | rfl | (simp; done) | (simp [*]; done)), H', ⟨Zra _⟩, ⟨by (with_reducible repeat (first | apply Zv | apply Zu | apply Zw)); exact Zwa HO0.out (fun _ hk => ⟨hk, (by simp [Value.ownBlock])⟩)⟩, ⟨by first | exact Kd.R_nil _ _ _ _ _ | exact Kd.N_nil _ _ _ _ _ | exact Kd.V_nil _ _ _ _ _ | exact Kd.Q_nil _ _ _ _ _ | exact Kd.S_nil _ _ _ _ _⟩, ⟨by repeat (first | (with_reducible first | exact HB.out | apply Zi | apply Ze | apply Zla) | exact HB.out)⟩⟩
 case round =>
  clear H'
  try clear c2
  try clear c2b0
  try clear c2b1
  try clear p2
  try clear c3
  obtain ⟨x3_1, x4_1, rfl, HA, HK1, HO_0, HO_3, HB⟩ := hrel
  cases gk with
  | zero => exact absurd HA.out (by simp [psalterylaw18_PageJoins.l0])
  | succ k1 =>
   have H := HA.out
   clear HA
   simp only [psalterylaw18_PageJoins.l0] at H
   by_cases c5 : x4_1 < (l0.length : Int)
   ·rw [if_pos c5] at H
    have c5b0 : decide (x4_1 < (l0.length : Int)) = true := Zn c5
    clear c5
    by_cases c6 : 0 ≤ x4_1
    rotate_left
    ·rw [if_neg c6] at H
     exact absurd H (by simp)
    rw [if_pos c6] at H
    have c6b0 : decide (0 ≤ x4_1) = true := Zn c6
    clear c6
    replace H := Option.bind_eq_some_iff.mp H
    obtain ⟨t103, A70, H⟩ := H
    replace H : (if t103 = true then ((psalterylaw18_knows.f).bind fun t104 => (some t104)) else ((psalterylaw18_As.f ((rd_T43 l0 x4_1).f0) ((rd_T43 l0 x4_1).f1) ((rd_T43 l0 x4_1).f2) ((rd_T43 l0 x4_1).f3) ((rd_T43 l0 x4_1).f4) ((rd_T43 l0 x4_1).f5) ((rd_T43 l0 x4_1).f6)).bind fun _ => (if x3_1.length < 2932031007402 then (psalterylaw18_PageJoins.l0 k1 l0 (x3_1 ++ [(⟨(rd_T43 l0 x4_1).f0, (rd_T43 l0 x4_1).f1, (rd_T43 l0 x4_1).f2, (rd_T43 l0 x4_1).f3, (rd_T43 l0 x4_1).f4, (rd_T43 l0 x4_1).f5, (rd_T43 l0 x4_1).f6⟩ : S50)]) (wrap64 (x4_1 + 1))) else (none)))) = some r := H
    have A7 := Zma A70
    clear A70
    by_cases c8 : t103 = true
    ·subst c8
     have H1 : ((psalterylaw18_knows.f).bind fun t104 => (some t104)) = some r := by rw [if_pos rfl] at H; exact H
     clear H
     have H := H1
     clear H1
     replace H := Option.bind_eq_some_iff.mp H
     obtain ⟨t104, A90, H⟩ := H
     replace H : (some t104) = some r := H
     have A9 := Zma A90
     clear A90
     obtain rfl := Zgb H
     have p102 : 0 ≤ (x4_1 : Int) := Zg (by first | (with_reducible assumption) | assumption)
     have q102 : x4_1 < (l0.length : Int) := Zg (by first | (with_reducible assumption) | assumption)
     obtain ⟨ad102, A102_6, c102_6, e102, hx102_0, hx102_1, hx102_2, hx102_3, hx102_4, hx102_5, hx102_6, hl102_6, hi102_6⟩ := at_T43 (Zjb HO_0.out).2.2 x4_1 p102 q102
     cases e102
     obtain ⟨ce102, hce102, hMe102, hcc102⟩ := Kd.V_get HO_0.out z43 x4_1 p102 (by first | exact q102 | exact Zg (by first | (with_reducible assumption) | assumption) | (have e_ := (Zjb HO_0.out).1; omega))
     obtain ⟨ua102_6, uc102_6, rfl, ul102_6, ge102_6⟩ := k43_openF hMe102
     have hv102_6 := hcc102 6 _ rfl
     rw [add_field _ _ 6 (by omega)] at hv102_6
     replace hv102_6 := Zgb (hv102_6.symm.trans hx102_6)
     injection hv102_6 with hva_ hvn_ hvc_
     rw [hva_] at ge102_6
     rw [hvc_] at ul102_6
     have HL102_6 := Zma (show Kd.V (Kd.slice 5 (Kd.int .u8)) 28 _ w.heap.size _ _ ((rd_T43 l0 x4_1).f6) from Kd.V_mk ul102_6 ge102_6)
     clear hva_ hvn_ hvc_ ge102_6 ul102_6 hcc102 hce102
     have HR102_6 := Zma hi102_6
     have HC102_6 := Zma hl102_6
     clear hi102_6 hl102_6
     replace p102 := Zja p102
     replace q102 := Zja q102
     go_wp2_with (first | ((with_reducible refine gate_callee (f := 32) rfl ?_); refine goesL_ (some 23) rfl rfl Try.func32 (by kernel_rfl) rfl #[.agg #[.int .i64 ((rd_T43 l0 x4_1).f0), .int .i64 ((rd_T43 l0 x4_1).f1), .bool ((rd_T43 l0 x4_1).f2), .bool ((rd_T43 l0 x4_1).f3), .bool ((rd_T43 l0 x4_1).f4), .bool ((rd_T43 l0 x4_1).f5), .slice A102_6 ((rd_T43 l0 x4_1).f6).length c102_6]] rfl (by (try simp only [Zdb, Zeb, Zfb]); first | done | rfl | (simp only [Zha, Zga]; rfl)) ?_; (with_reducible refine (psalterylaw18_great.calls ((rd_T43 l0 x4_1).f0) ((rd_T43 l0 x4_1).f1) ((rd_T43 l0 x4_1).f2) ((rd_T43 l0 x4_1).f3) ((rd_T43 l0 x4_1).f4) ((rd_T43 l0 x4_1).f5) _ _ ((rd_T43 l0 x4_1).f6) true _ ?side1 ?side2 A7.out).mono ?_); (case side1 => repeat (first | exact (by repeat (first | (with_reducible exact HR102_6.out) | (with_reducible refine Zba ?_ _) | (with_reducible refine Zaa ?_ _) | (with_reducible refine Zca ?_) | exact HR102_6.out)) | (with_reducible refine Zba ?_ _) | (with_reducible refine Zaa ?_ _) | (with_reducible refine Zca ?_))); (case side2 => exact HC102_6.out); rintro e w10 ⟨rfl, hb⟩; refine ⟨_, rfl, ?_⟩; have n0_ := Zma (Zya (by (with_reducible repeat (first | apply Zv | apply Zu | apply Zw)); exact HO_0.out) hb); have n1_ := Zma (Kd.N_below (by (with_reducible repeat (first | apply Zs | apply Zr | apply Zt)); exact HO_3.out) hb); have n2_ := Zma (Zya (by (with_reducible repeat (first | apply Zv | apply Zu | apply Zw)); exact HL102_6.out) hb); have n3_ := Zma (Kd.C_below (by repeat (first | (with_reducible exact HR102_6.out) | (with_reducible refine Zba ?_ _) | (with_reducible refine Zaa ?_ _) | (with_reducible refine Zca ?_) | exact HR102_6.out)) hb); have n4_ := Zma (Zoa (by repeat (first | (with_reducible first | exact HB.out | apply Zi | apply Ze | apply Zla) | exact HB.out)) hb); clear HO_0 HO_3 HL102_6 HR102_6 HB; have HO_0 := n0_; have HO_3 := n1_; have HL102_6 := n2_; have HR102_6 := n3_; have HB := n4_; clear n0_ n1_ n2_ n3_ n4_; (try clear hb); (try clear hb2); (try clear hk); (try clear hi)) | ((with_reducible refine gate_callee (f := 33) rfl ?_); refine goesL_ (some 24) rfl rfl Try.func33 (by kernel_rfl) rfl #[] rfl (by (try simp only [Zdb, Zeb, Zfb]); first | done | rfl | (simp only [Zha, Zga]; rfl)) ?_; (with_reducible refine (psalterylaw18_knows.calls  t104 _ A9.out).mono ?_); rintro e w11 ⟨rfl, hb⟩; refine ⟨_, rfl, ?_⟩; have n0_ := Zma (Zya (by (with_reducible repeat (first | apply Zv | apply Zu | apply Zw)); exact HO_0.out) hb); have n1_ := Zma (Kd.N_below (by (with_reducible repeat (first | apply Zs | apply Zr | apply Zt)); exact HO_3.out) hb); have n2_ := Zma (Zya (by (with_reducible repeat (first | apply Zv | apply Zu | apply Zw)); exact HL102_6.out) hb); have n3_ := Zma (Kd.C_below (by repeat (first | (with_reducible exact HR102_6.out) | (with_reducible refine Zba ?_ _) | (with_reducible refine Zaa ?_ _) | (with_reducible refine Zca ?_) | exact HR102_6.out)) hb); have n4_ := Zma (Zoa (by repeat (first | (with_reducible first | exact HB.out | apply Zi | apply Ze | apply Zla) | exact HB.out)) hb); clear HO_0 HO_3 HL102_6 HR102_6 HB; have HO_0 := n0_; have HO_3 := n1_; have HL102_6 := n2_; have HR102_6 := n3_; have HB := n4_; clear n0_ n1_ n2_ n3_ n4_; (try clear hb); (try clear hb2); (try clear hk); (try clear hi)))
     go_ret
     exact ⟨by first | rfl | (simp [errW_none, errW_some] <;> rfl) | (simp [*, errW_none, errW_some] <;> rfl), by repeat (first | (with_reducible first | exact HB.out | apply Zi | apply Ze | apply Zla) | exact HB.out)⟩
    replace c8 := Bool.eq_false_iff.mpr c8
    subst c8
    have H1 : ((psalterylaw18_As.f ((rd_T43 l0 x4_1).f0) ((rd_T43 l0 x4_1).f1) ((rd_T43 l0 x4_1).f2) ((rd_T43 l0 x4_1).f3) ((rd_T43 l0 x4_1).f4) ((rd_T43 l0 x4_1).f5) ((rd_T43 l0 x4_1).f6)).bind fun _ => (if x3_1.length < 2932031007402 then (psalterylaw18_PageJoins.l0 k1 l0 (x3_1 ++ [(⟨(rd_T43 l0 x4_1).f0, (rd_T43 l0 x4_1).f1, (rd_T43 l0 x4_1).f2, (rd_T43 l0 x4_1).f3, (rd_T43 l0 x4_1).f4, (rd_T43 l0 x4_1).f5, (rd_T43 l0 x4_1).f6⟩ : S50)]) (wrap64 (x4_1 + 1))) else (none))) = some r := by rw [if_neg (show ¬ (false = true) by decide)] at H; exact H
    clear H
    have H := H1
    clear H1
    replace H := Option.bind_eq_some_iff.mp H
    obtain ⟨_, A120, H⟩ := H
    replace H : (if x3_1.length < 2932031007402 then (psalterylaw18_PageJoins.l0 k1 l0 (x3_1 ++ [(⟨(rd_T43 l0 x4_1).f0, (rd_T43 l0 x4_1).f1, (rd_T43 l0 x4_1).f2, (rd_T43 l0 x4_1).f3, (rd_T43 l0 x4_1).f4, (rd_T43 l0 x4_1).f5, (rd_T43 l0 x4_1).f6⟩ : S50)]) (wrap64 (x4_1 + 1))) else (none)) = some r := H
    have A12 := Zma A120
    clear A120
    by_cases c13 : x3_1.length < 2932031007402
    rotate_left
    ·rw [if_neg c13] at H
     exact absurd H (by simp)
    rw [if_pos c13] at H
    have LMc13 := Zma c13
    clear c13
    obtain ⟨y106, hy106⟩ : ∃ y_ : List (S50), y_ = (x3_1 ++ [(⟨(rd_T43 l0 x4_1).f0, (rd_T43 l0 x4_1).f1, (rd_T43 l0 x4_1).f2, (rd_T43 l0 x4_1).f3, (rd_T43 l0 x4_1).f4, (rd_T43 l0 x4_1).f5, (rd_T43 l0 x4_1).f6⟩ : S50)]) := ⟨_, rfl⟩
    replace H : (psalterylaw18_PageJoins.l0 k1 l0 y106 (wrap64 (x4_1 + 1))) = some r := by first | (rw [hy106]; with_reducible exact H) | (have H2_ := (Zsa _ _).symm.trans H; rw [hy106]; with_reducible exact H2_) | (have H2_ := (Zsa _ _).symm.trans H; with_reducible exact H2_) | with_reducible exact H | (rw [hy106]; exact H) | exact H
    have Ny106 := Zma hy106
    clear hy106
    have H' := Zma H
    clear H
    have p102 : 0 ≤ (x4_1 : Int) := Zg (by first | (with_reducible assumption) | assumption)
    have q102 : x4_1 < (l0.length : Int) := Zg (by first | (with_reducible assumption) | assumption)
    obtain ⟨ad102, A102_6, c102_6, e102, hx102_0, hx102_1, hx102_2, hx102_3, hx102_4, hx102_5, hx102_6, hl102_6, hi102_6⟩ := at_T43 (Zjb HO_0.out).2.2 x4_1 p102 q102
    cases e102
    obtain ⟨ce102, hce102, hMe102, hcc102⟩ := Kd.V_get HO_0.out z43 x4_1 p102 (by first | exact q102 | exact Zg (by first | (with_reducible assumption) | assumption) | (have e_ := (Zjb HO_0.out).1; omega))
    obtain ⟨ua102_6, uc102_6, rfl, ul102_6, ge102_6⟩ := k43_openF hMe102
    have hv102_6 := hcc102 6 _ rfl
    rw [add_field _ _ 6 (by omega)] at hv102_6
    replace hv102_6 := Zgb (hv102_6.symm.trans hx102_6)
    injection hv102_6 with hva_ hvn_ hvc_
    rw [hva_] at ge102_6
    rw [hvc_] at ul102_6
    have HL102_6 := Zma (show Kd.V (Kd.slice 5 (Kd.int .u8)) 28 _ w.heap.size _ _ ((rd_T43 l0 x4_1).f6) from Kd.V_mk ul102_6 ge102_6)
    clear hva_ hvn_ hvc_ ge102_6 ul102_6 hcc102 hce102
    have HR102_6 := Zma hi102_6
    have HC102_6 := Zma hl102_6
    clear hi102_6 hl102_6
    replace p102 := Zja p102
    replace q102 := Zja q102
    go_wp2_with (first | ((with_reducible refine gate_callee (f := 32) rfl ?_); refine goesL_ (some 23) rfl rfl Try.func32 (by kernel_rfl) rfl #[.agg #[.int .i64 ((rd_T43 l0 x4_1).f0), .int .i64 ((rd_T43 l0 x4_1).f1), .bool ((rd_T43 l0 x4_1).f2), .bool ((rd_T43 l0 x4_1).f3), .bool ((rd_T43 l0 x4_1).f4), .bool ((rd_T43 l0 x4_1).f5), .slice A102_6 ((rd_T43 l0 x4_1).f6).length c102_6]] rfl (by (try simp only [Zdb, Zeb, Zfb]); first | done | rfl | (simp only [Zha, Zga]; rfl)) ?_; (with_reducible refine (psalterylaw18_great.calls ((rd_T43 l0 x4_1).f0) ((rd_T43 l0 x4_1).f1) ((rd_T43 l0 x4_1).f2) ((rd_T43 l0 x4_1).f3) ((rd_T43 l0 x4_1).f4) ((rd_T43 l0 x4_1).f5) _ _ ((rd_T43 l0 x4_1).f6) false _ ?side1 ?side2 A7.out).mono ?_); (case side1 => repeat (first | exact (by repeat (first | (with_reducible exact HR102_6.out) | (with_reducible refine Zba ?_ _) | (with_reducible refine Zaa ?_ _) | (with_reducible refine Zca ?_) | exact HR102_6.out)) | (with_reducible refine Zba ?_ _) | (with_reducible refine Zaa ?_ _) | (with_reducible refine Zca ?_))); (case side2 => exact HC102_6.out); rintro e w14 ⟨rfl, hb⟩; refine ⟨_, rfl, ?_⟩; have n0_ := Zma (Zya (by (with_reducible repeat (first | apply Zv | apply Zu | apply Zw)); exact HO_0.out) hb); have n1_ := Zma (Kd.N_below (by (with_reducible repeat (first | apply Zs | apply Zr | apply Zt)); exact HO_3.out) hb); have n2_ := Zma (Zya (by (with_reducible repeat (first | apply Zv | apply Zu | apply Zw)); exact HL102_6.out) hb); have n3_ := Zma (Kd.C_below (by repeat (first | (with_reducible exact HR102_6.out) | (with_reducible refine Zba ?_ _) | (with_reducible refine Zaa ?_ _) | (with_reducible refine Zca ?_) | exact HR102_6.out)) hb); have n4_ := Zma (Zoa (by repeat (first | (with_reducible first | exact HB.out | apply Zi | apply Ze | apply Zla) | exact HB.out)) hb); clear HO_0 HO_3 HL102_6 HR102_6 HB; have HO_0 := n0_; have HO_3 := n1_; have HL102_6 := n2_; have HR102_6 := n3_; have HB := n4_; clear n0_ n1_ n2_ n3_ n4_; (try clear hb); (try clear hb2); (try clear hk); (try clear hi); have p105 : 0 ≤ (x4_1 : Int) := Zg (by first | (with_reducible assumption) | assumption); have q105 : x4_1 < (l0.length : Int) := Zg (by first | (with_reducible assumption) | assumption); obtain ⟨ad105, A105_6, c105_6, e105, hx105_0, hx105_1, hx105_2, hx105_3, hx105_4, hx105_5, hx105_6, hl105_6, hi105_6⟩ := at_T43 (Zjb HO_0.out).2.2 x4_1 p105 q105; obtain rfl : ad102 = ad105 := (by injection e105); obtain ⟨ce105, hce105, hMe105, hcc105⟩ := Kd.V_get HO_0.out z43 x4_1 p105 (by first | exact q105 | exact Zg (by first | (with_reducible assumption) | assumption) | (have e_ := (Zjb HO_0.out).1; omega)); obtain ⟨ua105_6, uc105_6, rfl, ul105_6, ge105_6⟩ := k43_openF hMe105; have hv105_6 := hcc105 6 _ rfl; rw [add_field _ _ 6 (by omega)] at hv105_6; replace hv105_6 := Zgb (hv105_6.symm.trans hx105_6); injection hv105_6 with hva_ hvn_ hvc_; rw [hva_] at ge105_6; rw [hvc_] at ul105_6; have HL105_6 := Zma (show Kd.V (Kd.slice 5 (Kd.int .u8)) 28 _ w.heap.size _ _ ((rd_T43 l0 x4_1).f6) from Kd.V_mk ul105_6 ge105_6); clear hva_ hvn_ hvc_ ge105_6 ul105_6 hcc105 hce105; have HR105_6 := Zma hi105_6; have HC105_6 := Zma hl105_6; clear hi105_6 hl105_6; replace p105 := Zja p105; replace q105 := Zja q105) | ((with_reducible refine gate_callee (f := 37) rfl ?_); refine goesL_ (some 30) rfl rfl Try.func37 (by kernel_rfl) rfl #[.agg #[.int .i64 ((rd_T43 l0 x4_1).f0), .int .i64 ((rd_T43 l0 x4_1).f1), .bool ((rd_T43 l0 x4_1).f2), .bool ((rd_T43 l0 x4_1).f3), .bool ((rd_T43 l0 x4_1).f4), .bool ((rd_T43 l0 x4_1).f5), .slice A105_6 ((rd_T43 l0 x4_1).f6).length c105_6]] rfl (by (try simp only [Zdb, Zeb, Zfb]); first | done | rfl | (simp only [Zha, Zga]; rfl)) ?_; (with_reducible refine (psalterylaw18_As.calls ((rd_T43 l0 x4_1).f0) ((rd_T43 l0 x4_1).f1) ((rd_T43 l0 x4_1).f2) ((rd_T43 l0 x4_1).f3) ((rd_T43 l0 x4_1).f4) ((rd_T43 l0 x4_1).f5) _ _ ((rd_T43 l0 x4_1).f6)  _ ?side1 ?side2 A12.out).mono ?_); (case side1 => repeat (first | exact (by repeat (first | (with_reducible exact HR105_6.out) | (with_reducible refine Zba ?_ _) | (with_reducible refine Zaa ?_ _) | (with_reducible refine Zca ?_) | exact HR105_6.out)) | (with_reducible refine Zba ?_ _) | (with_reducible refine Zaa ?_ _) | (with_reducible refine Zca ?_))); (case side2 => exact HC105_6.out); rintro e w15 ⟨rfl, hb⟩; refine ⟨_, rfl, ?_⟩; have n0_ := Zma (Zya (by (with_reducible repeat (first | apply Zv | apply Zu | apply Zw)); exact HO_0.out) hb); have n1_ := Zma (Kd.N_below (by (with_reducible repeat (first | apply Zs | apply Zr | apply Zt)); exact HO_3.out) hb); have n2_ := Zma (Zya (by (with_reducible repeat (first | apply Zv | apply Zu | apply Zw)); exact HL102_6.out) hb); have n3_ := Zma (Zya (by (with_reducible repeat (first | apply Zv | apply Zu | apply Zw)); exact HL105_6.out) hb); have n4_ := Zma (Kd.C_below (by repeat (first | (with_reducible exact HR102_6.out) | (with_reducible refine Zba ?_ _) | (with_reducible refine Zaa ?_ _) | (with_reducible refine Zca ?_) | exact HR102_6.out)) hb); have n5_ := Zma (Kd.C_below (by repeat (first | (with_reducible exact HR105_6.out) | (with_reducible refine Zba ?_ _) | (with_reducible refine Zaa ?_ _) | (with_reducible refine Zca ?_) | exact HR105_6.out)) hb); have n6_ := Zma (Zoa (by repeat (first | (with_reducible first | exact HB.out | apply Zi | apply Ze | apply Zla) | exact HB.out)) hb); clear HO_0 HO_3 HL102_6 HL105_6 HR102_6 HR105_6 HB; have HO_0 := n0_; have HO_3 := n1_; have HL102_6 := n2_; have HL105_6 := n3_; have HR102_6 := n4_; have HR105_6 := n5_; have HB := n6_; clear n0_ n1_ n2_ n3_ n4_ n5_ n6_; (try clear hb); (try clear hb2); (try clear hk); (try clear hi)) | ((with_reducible refine gate_builtin (b := .append) (xs := #[.tmp 25, .tmp 31]) rfl ?_); at_builtin; refine Kd.N_append k50 (w0 := w) w.heap.size rfl (.tmp 25) (.tmp 31) 84 50 (.agg #[(.int .i64 0), (.int .i64 0), (.bool false), (.bool false), (.bool false), (.bool false), (.slice none 0 0)]) 48 rfl Try.underlying84 info50 rfl (by decide) (by omega) u3 x3_1 (⟨(rd_T43 l0 x4_1).f0, (rd_T43 l0 x4_1).f1, (rd_T43 l0 x4_1).f2, (rd_T43 l0 x4_1).f3, (rd_T43 l0 x4_1).f4, (rd_T43 l0 x4_1).f5, (rd_T43 l0 x4_1).f6⟩ : S50) [.int .i64 ((rd_T43 l0 x4_1).f0), .int .i64 ((rd_T43 l0 x4_1).f1), .bool ((rd_T43 l0 x4_1).f2), .bool ((rd_T43 l0 x4_1).f3), .bool ((rd_T43 l0 x4_1).f4), .bool ((rd_T43 l0 x4_1).f5), .slice A105_6 ((rd_T43 l0 x4_1).f6).length c105_6] (fun k_ => (P0_ k_ ∨ w.heap.size ≤ k_)) (fun k_ => ((fun k_ => (P0_ k_ ∨ w.heap.size ≤ k_))) k_ ∧ some k_ ≠ (u3 : Value).ownBlock) rfl rfl ?aP (fun _ hk => hk) ?aF ?aO ?aB ?aS ?aL ?_; (case aP => exact (k50_mkF _ _ (⟨(rd_T43 l0 x4_1).f0, (rd_T43 l0 x4_1).f1, (rd_T43 l0 x4_1).f2, (rd_T43 l0 x4_1).f3, (rd_T43 l0 x4_1).f4, (rd_T43 l0 x4_1).f5, (rd_T43 l0 x4_1).f6⟩ : S50) (Zjb (Zwa (ok' := (fun k_ => ((fun k_ => (P0_ k_ ∨ w.heap.size ≤ k_))) k_ ∧ some k_ ≠ (u3 : Value).ownBlock)) (HL105_6.out) (fun k_ hk => ⟨hk.1, hk.2⟩))).2.1 (Kd.V_F (Zwa (ok' := (fun k_ => ((fun k_ => (P0_ k_ ∨ w.heap.size ≤ k_))) k_ ∧ some k_ ≠ (u3 : Value).ownBlock)) (HL105_6.out) (fun k_ hk => ⟨hk.1, hk.2⟩))))); (case aB => exact (by repeat (first | (with_reducible first | exact HB.out | apply Zi | apply Ze | apply Zla) | exact HB.out))); (case aF => exact (fun k_ hk => (.inr (Nat.le_trans (Zfa (by repeat (first | (with_reducible first | exact HB.out | apply Zi | apply Ze | apply Zla) | exact HB.out))) hk)))); (case aO => exact (by (with_reducible repeat (first | apply Zs | apply Zr | apply Zt)); exact HO_3.out)); (case aS => exact (Zfa (by repeat (first | (with_reducible first | exact HB.out | apply Zi | apply Ze | apply Zla) | exact HB.out)))); (case aL => have := LMc13.out; omega); intro v107 w16 ho hb hg hat; rw [← Ny106.out] at ho; have n0_ := Zma (Kd.V_afterv (ok := (fun k_ => (P0_ k_ ∨ w.heap.size ≤ k_))) (by (with_reducible repeat (first | apply Zv | apply Zu | apply Zw)); exact HO_0.out) hg hat); have n1_ := Zma (Kd.V_afterv (ok := (fun k_ => (P0_ k_ ∨ w.heap.size ≤ k_))) (by (with_reducible repeat (first | apply Zv | apply Zu | apply Zw)); exact HL102_6.out) hg hat); have n2_ := Zma (Kd.V_afterv (ok := (fun k_ => (P0_ k_ ∨ w.heap.size ≤ k_))) (by (with_reducible repeat (first | apply Zv | apply Zu | apply Zw)); exact HL105_6.out) hg hat); have n3_ := Zma (hb); have n4_ := Zma (ho); clear HO_0 HL102_6 HL105_6 HB HO_3; have HO_0 := n0_; have HL102_6 := n1_; have HL105_6 := n2_; have HB := n3_; have HO108 := n4_; clear n0_ n1_ n2_ n3_ n4_ ho hb hg hat))
    go_roundg k1
    case measure => have := HK1.out; omega
    case rel => exact ⟨(y106), (wrap64 (x4_1 + 1)), (by first | rfl | (simp; done) | (simp [*]; done)), H', ⟨by have := HK1.out; omega⟩, ⟨by (with_reducible repeat (first | apply Zv | apply Zu | apply Zw)); exact HO_0.out⟩, ⟨by (with_reducible repeat (first | apply Zs | apply Zr | apply Zt)); exact HO108.out⟩, ⟨by repeat (first | (with_reducible first | exact HB.out | apply Zi | apply Ze | apply Zla) | exact HB.out)⟩⟩
   rw [if_neg c5] at H
   have c5b0 : decide (x4_1 < (l0.length : Int)) = false := Zna c5
   clear c5
   replace H := Option.bind_eq_some_iff.mp H
   obtain ⟨⟨t109, t110⟩, A170, H⟩ := H
   replace H : ((psalteryref18_Join.f x3_1).bind fun bt113 => ((psalteryref18_SameBytes.f t109 bt113.1).bind fun t117 => (if t117 = true then (if t110 = bt113.2 then ((psalterylaw18_knows.f).bind fun t118 => (some t118)) else (some false)) else (some false)))) = some r := H
   have A17 := Zma A170
   clear A170
   replace H := Option.bind_eq_some_iff.mp H
   obtain ⟨⟨t113, t114⟩, A180, H⟩ := H
   replace H : ((psalteryref18_SameBytes.f t109 t113).bind fun t117 => (if t117 = true then (if t110 = t114 then ((psalterylaw18_knows.f).bind fun t118 => (some t118)) else (some false)) else (some false))) = some r := H
   have A18 := Zma A180
   clear A180
   replace H := Option.bind_eq_some_iff.mp H
   obtain ⟨t117, A190, H⟩ := H
   replace H : (if t117 = true then (if t110 = t114 then ((psalterylaw18_knows.f).bind fun t118 => (some t118)) else (some false)) else (some false)) = some r := H
   have A19 := Zma A190
   clear A190
   by_cases c20 : t117 = true
   ·subst c20
    have H1 : (if t110 = t114 then ((psalterylaw18_knows.f).bind fun t118 => (some t118)) else (some false)) = some r := by rw [if_pos rfl] at H; exact H
    clear H
    have H := H1
    clear H1
    by_cases c21 : t110 = t114
    ·rw [if_pos c21] at H
     have c21b0 : (t110 == t114) = true := beq_iff_eq.mpr c21
     have c21b1 : (t110 != t114) = false := bne_eq_false_iff_eq.mpr c21
     clear c21
     replace H := Option.bind_eq_some_iff.mp H
     obtain ⟨t118, A220, H⟩ := H
     replace H : (some t118) = some r := H
     have A22 := Zma A220
     clear A220
     obtain rfl := Zgb H
     go_wp2_with (first | ((with_reducible refine gate_callee (f := 38) rfl ?_); refine goesL_ (some 35) rfl rfl Try.func38 (by kernel_rfl) rfl #[.slice A0 l0.length c0] rfl (by (try simp only [Zdb, Zeb, Zfb]); first | done | rfl | (simp only [Zha, Zga]; rfl)) ?_; (with_reducible refine (page_Join.calls _ _ l0 t109 t110 _ ?side1 ?side2 A17.out).mono ?_); (case side1 => repeat (first | exact (Zjb HO_0.out).2.2 | (with_reducible refine Zba ?_ _) | (with_reducible refine Zaa ?_ _) | (with_reducible refine Zca ?_))); (case side2 => exact (Zjb HO_0.out).2.1); rintro e w23 ⟨v111, rfl, ho0, hb⟩; refine ⟨_, rfl, ?_⟩; have n0_ := Zma (Kd.V_elder' (by (with_reducible repeat (first | apply Zv | apply Zu | apply Zw)); exact HO_0.out) (Kd.N_base (Kd.S_N (Kd.S_bound ho0))) hb); have n1_ := Zma (Kd.N_elder' (by (with_reducible repeat (first | apply Zs | apply Zr | apply Zt)); exact HO_3.out) (Kd.N_base (Kd.S_N (Kd.S_bound ho0))) hb); have n2_ := Zma (Kd.N_lower (Kd.N_mono (ok' := fun k_ => (P0_ k_ ∨ w.heap.size ≤ k_) ∧ some k_ ≠ (u3 : Value).ownBlock) (Kd.S_N (Kd.S_bound ho0)) (fun k_ hk_ => ⟨(.inr (Nat.le_trans (Zfa (by repeat (first | (with_reducible first | exact HB.out | apply Zi | apply Ze | apply Zla) | exact HB.out))) hk_.2.1)), (Kd.fresh' (Kd.N_lt (by (with_reducible repeat (first | apply Zs | apply Zr | apply Zt)); exact HO_3.out)) k_ hk_.2.1)⟩)) (Zfa (by repeat (first | (with_reducible first | exact HB.out | apply Zi | apply Ze | apply Zla) | exact HB.out)))); have n3_ := Zma (Zoa (by repeat (first | (with_reducible first | exact HB.out | apply Zi | apply Ze | apply Zla) | exact HB.out)) hb); clear HO_0 HO_3 HB; have HO_0 := n0_; have HO_3 := n1_; have HO112 := n2_; have HB := n3_; clear n0_ n1_ n2_ n3_; (try clear hb); (try clear hb2); (try clear hk); (try clear hi); (try clear ho0); obtain ⟨Ao24, co24, eo24⟩ := Kd.N_slice HO_3.out; subst eo24) | ((with_reducible refine gate_callee (f := 58) rfl ?_); refine goesL_ (some 40) rfl rfl Try.func58 (by kernel_rfl) rfl #[.slice Ao24 x3_1.length co24] rfl (by (try simp only [Zdb, Zeb, Zfb]); first | done | rfl | (simp only [Zha, Zga]; rfl)) ?_; (with_reducible refine (psalteryref18_Join.calls _ _ x3_1 t113 t114 _ ?side1 ?side2 A18.out).mono ?_); (case side1 => repeat (first | exact (Zlb HO_3.out).2.2 | (with_reducible refine Zba ?_ _) | (with_reducible refine Zaa ?_ _) | (with_reducible refine Zca ?_))); (case side2 => exact (Zlb HO_3.out).2.1); rintro e w25 ⟨v115, rfl, ho0, hb⟩; refine ⟨_, rfl, ?_⟩; have n0_ := Zma (Kd.V_elder' (by (with_reducible repeat (first | apply Zv | apply Zu | apply Zw)); exact HO_0.out) (Kd.N_base (Kd.S_N (Kd.S_bound ho0))) hb); have n1_ := Zma (Kd.N_elder' (by (with_reducible repeat (first | apply Zs | apply Zr | apply Zt)); exact HO_3.out) (Kd.N_base (Kd.S_N (Kd.S_bound ho0))) hb); have n2_ := Zma (Kd.N_elder' (by (with_reducible repeat (first | apply Zs | apply Zr | apply Zt)); exact HO112.out) (Kd.N_base (Kd.S_N (Kd.S_bound ho0))) hb); have n3_ := Zma (Kd.N_lower (Kd.N_mono (ok' := fun k_ => (P0_ k_ ∨ w.heap.size ≤ k_) ∧ some k_ ≠ (.slice Ao24 x3_1.length co24 : Value).ownBlock ∧ some k_ ≠ (v111 : Value).ownBlock) (Kd.S_N (Kd.S_bound ho0)) (fun k_ hk_ => ⟨(.inr (Nat.le_trans (Zfa (by repeat (first | (with_reducible first | exact HB.out | apply Zi | apply Ze | apply Zla) | exact HB.out))) hk_.2.1)), (Kd.fresh' (Kd.N_lt (by (with_reducible repeat (first | apply Zs | apply Zr | apply Zt)); exact HO_3.out)) k_ hk_.2.1), (Kd.fresh' (Kd.N_lt (by (with_reducible repeat (first | apply Zs | apply Zr | apply Zt)); exact HO112.out)) k_ hk_.2.1)⟩)) (Zfa (by repeat (first | (with_reducible first | exact HB.out | apply Zi | apply Ze | apply Zla) | exact HB.out)))); have n4_ := Zma (Zoa (by repeat (first | (with_reducible first | exact HB.out | apply Zi | apply Ze | apply Zla) | exact HB.out)) hb); clear HO_0 HO_3 HO112 HB; have HO_0 := n0_; have HO_3 := n1_; have HO112 := n2_; have HO116 := n3_; have HB := n4_; clear n0_ n1_ n2_ n3_ n4_; (try clear hb); (try clear hb2); (try clear hk); (try clear hi); (try clear ho0); obtain ⟨Ao26, co26, eo26⟩ := Kd.N_slice HO112.out; subst eo26; obtain ⟨Ao27, co27, eo27⟩ := Kd.N_slice HO116.out; subst eo27) | ((with_reducible refine gate_callee (f := 59) rfl ?_); refine goesL_ (some 45) rfl rfl Try.func59 (by kernel_rfl) rfl #[.slice Ao26 t109.length co26, .slice Ao27 t113.length co27] rfl (by (try simp only [Zdb, Zeb, Zfb]); first | done | rfl | (simp only [Zha, Zga]; rfl)) ?_; (with_reducible refine (psalteryref18_SameBytes.calls _ _ t109 _ _ t113 true _ ?side1 ?side2 ?side3 ?side4 A19.out).mono ?_); (case side1 => repeat (first | exact (Zlb HO112.out).2.2 | (with_reducible refine Zba ?_ _) | (with_reducible refine Zaa ?_ _) | (with_reducible refine Zca ?_))); (case side2 => exact (Zlb HO112.out).2.1); (case side3 => repeat (first | exact (Zlb HO116.out).2.2 | (with_reducible refine Zba ?_ _) | (with_reducible refine Zaa ?_ _) | (with_reducible refine Zca ?_))); (case side4 => exact (Zlb HO116.out).2.1); rintro e w' ⟨rfl, ⟨nd, rfl⟩⟩; refine ⟨_, rfl, ?_⟩) | (go_at_call 33; (with_reducible refine (psalterylaw18_knows.calls  t118 _ A22.out).mono ?_); rintro e w28 ⟨rfl, hb⟩; have n0_ := Zma (Zya (by (with_reducible repeat (first | apply Zv | apply Zu | apply Zw)); exact HO_0.out) hb); have n1_ := Zma (Kd.N_below (by (with_reducible repeat (first | apply Zs | apply Zr | apply Zt)); exact HO_3.out) hb); have n2_ := Zma (Kd.N_below (by (with_reducible repeat (first | apply Zs | apply Zr | apply Zt)); exact HO112.out) hb); have n3_ := Zma (Kd.N_below (by (with_reducible repeat (first | apply Zs | apply Zr | apply Zt)); exact HO116.out) hb); have n4_ := Zma (Zoa (by repeat (first | (with_reducible first | exact HB.out | apply Zi | apply Ze | apply Zla) | exact HB.out)) hb); clear HO_0 HO_3 HO112 HO116 HB; have HO_0 := n0_; have HO_3 := n1_; have HO112 := n2_; have HO116 := n3_; have HB := n4_; clear n0_ n1_ n2_ n3_ n4_; (try clear hb); (try clear hb2); (try clear hk); (try clear hi)))
     go_ret
     exact ⟨by first | rfl | (simp [errW_none, errW_some] <;> rfl) | (simp [*, errW_none, errW_some] <;> rfl), by repeat (first | (with_reducible first | exact HB.out | apply Zi | apply Ze | apply Zla) | exact HB.out)⟩
    rw [if_neg c21] at H
    have c21b0 : (t110 == t114) = false := beq_eq_false_iff_ne.mpr c21
    have c21b1 : (t110 != t114) = true := bne_iff_ne.mpr c21
    obtain rfl := Zgb H
    go_wp2_with (first | ((with_reducible refine gate_callee (f := 38) rfl ?_); refine goesL_ (some 35) rfl rfl Try.func38 (by kernel_rfl) rfl #[.slice A0 l0.length c0] rfl (by (try simp only [Zdb, Zeb, Zfb]); first | done | rfl | (simp only [Zha, Zga]; rfl)) ?_; (with_reducible refine (page_Join.calls _ _ l0 t109 t110 _ ?side1 ?side2 A17.out).mono ?_); (case side1 => repeat (first | exact (Zjb HO_0.out).2.2 | (with_reducible refine Zba ?_ _) | (with_reducible refine Zaa ?_ _) | (with_reducible refine Zca ?_))); (case side2 => exact (Zjb HO_0.out).2.1); rintro e w29 ⟨v111, rfl, ho0, hb⟩; refine ⟨_, rfl, ?_⟩; have n0_ := Zma (Kd.V_elder' (by (with_reducible repeat (first | apply Zv | apply Zu | apply Zw)); exact HO_0.out) (Kd.N_base (Kd.S_N (Kd.S_bound ho0))) hb); have n1_ := Zma (Kd.N_elder' (by (with_reducible repeat (first | apply Zs | apply Zr | apply Zt)); exact HO_3.out) (Kd.N_base (Kd.S_N (Kd.S_bound ho0))) hb); have n2_ := Zma (Kd.N_lower (Kd.N_mono (ok' := fun k_ => (P0_ k_ ∨ w.heap.size ≤ k_) ∧ some k_ ≠ (u3 : Value).ownBlock) (Kd.S_N (Kd.S_bound ho0)) (fun k_ hk_ => ⟨(.inr (Nat.le_trans (Zfa (by repeat (first | (with_reducible first | exact HB.out | apply Zi | apply Ze | apply Zla) | exact HB.out))) hk_.2.1)), (Kd.fresh' (Kd.N_lt (by (with_reducible repeat (first | apply Zs | apply Zr | apply Zt)); exact HO_3.out)) k_ hk_.2.1)⟩)) (Zfa (by repeat (first | (with_reducible first | exact HB.out | apply Zi | apply Ze | apply Zla) | exact HB.out)))); have n3_ := Zma (Zoa (by repeat (first | (with_reducible first | exact HB.out | apply Zi | apply Ze | apply Zla) | exact HB.out)) hb); clear HO_0 HO_3 HB; have HO_0 := n0_; have HO_3 := n1_; have HO112 := n2_; have HB := n3_; clear n0_ n1_ n2_ n3_; (try clear hb); (try clear hb2); (try clear hk); (try clear hi); (try clear ho0); obtain ⟨Ao30, co30, eo30⟩ := Kd.N_slice HO_3.out; subst eo30) | ((with_reducible refine gate_callee (f := 58) rfl ?_); refine goesL_ (some 40) rfl rfl Try.func58 (by kernel_rfl) rfl #[.slice Ao30 x3_1.length co30] rfl (by (try simp only [Zdb, Zeb, Zfb]); first | done | rfl | (simp only [Zha, Zga]; rfl)) ?_; (with_reducible refine (psalteryref18_Join.calls _ _ x3_1 t113 t114 _ ?side1 ?side2 A18.out).mono ?_); (case side1 => repeat (first | exact (Zlb HO_3.out).2.2 | (with_reducible refine Zba ?_ _) | (with_reducible refine Zaa ?_ _) | (with_reducible refine Zca ?_))); (case side2 => exact (Zlb HO_3.out).2.1); rintro e w31 ⟨v115, rfl, ho0, hb⟩; refine ⟨_, rfl, ?_⟩; have n0_ := Zma (Kd.V_elder' (by (with_reducible repeat (first | apply Zv | apply Zu | apply Zw)); exact HO_0.out) (Kd.N_base (Kd.S_N (Kd.S_bound ho0))) hb); have n1_ := Zma (Kd.N_elder' (by (with_reducible repeat (first | apply Zs | apply Zr | apply Zt)); exact HO_3.out) (Kd.N_base (Kd.S_N (Kd.S_bound ho0))) hb); have n2_ := Zma (Kd.N_elder' (by (with_reducible repeat (first | apply Zs | apply Zr | apply Zt)); exact HO112.out) (Kd.N_base (Kd.S_N (Kd.S_bound ho0))) hb); have n3_ := Zma (Kd.N_lower (Kd.N_mono (ok' := fun k_ => (P0_ k_ ∨ w.heap.size ≤ k_) ∧ some k_ ≠ (.slice Ao30 x3_1.length co30 : Value).ownBlock ∧ some k_ ≠ (v111 : Value).ownBlock) (Kd.S_N (Kd.S_bound ho0)) (fun k_ hk_ => ⟨(.inr (Nat.le_trans (Zfa (by repeat (first | (with_reducible first | exact HB.out | apply Zi | apply Ze | apply Zla) | exact HB.out))) hk_.2.1)), (Kd.fresh' (Kd.N_lt (by (with_reducible repeat (first | apply Zs | apply Zr | apply Zt)); exact HO_3.out)) k_ hk_.2.1), (Kd.fresh' (Kd.N_lt (by (with_reducible repeat (first | apply Zs | apply Zr | apply Zt)); exact HO112.out)) k_ hk_.2.1)⟩)) (Zfa (by repeat (first | (with_reducible first | exact HB.out | apply Zi | apply Ze | apply Zla) | exact HB.out)))); have n4_ := Zma (Zoa (by repeat (first | (with_reducible first | exact HB.out | apply Zi | apply Ze | apply Zla) | exact HB.out)) hb); clear HO_0 HO_3 HO112 HB; have HO_0 := n0_; have HO_3 := n1_; have HO112 := n2_; have HO116 := n3_; have HB := n4_; clear n0_ n1_ n2_ n3_ n4_; (try clear hb); (try clear hb2); (try clear hk); (try clear hi); (try clear ho0); obtain ⟨Ao32, co32, eo32⟩ := Kd.N_slice HO112.out; subst eo32; obtain ⟨Ao33, co33, eo33⟩ := Kd.N_slice HO116.out; subst eo33) | ((with_reducible refine gate_callee (f := 59) rfl ?_); refine goesL_ (some 45) rfl rfl Try.func59 (by kernel_rfl) rfl #[.slice Ao32 t109.length co32, .slice Ao33 t113.length co33] rfl (by (try simp only [Zdb, Zeb, Zfb]); first | done | rfl | (simp only [Zha, Zga]; rfl)) ?_; (with_reducible refine (psalteryref18_SameBytes.calls _ _ t109 _ _ t113 true _ ?side1 ?side2 ?side3 ?side4 A19.out).mono ?_); (case side1 => repeat (first | exact (Zlb HO112.out).2.2 | (with_reducible refine Zba ?_ _) | (with_reducible refine Zaa ?_ _) | (with_reducible refine Zca ?_))); (case side2 => exact (Zlb HO112.out).2.1); (case side3 => repeat (first | exact (Zlb HO116.out).2.2 | (with_reducible refine Zba ?_ _) | (with_reducible refine Zaa ?_ _) | (with_reducible refine Zca ?_))); (case side4 => exact (Zlb HO116.out).2.1); rintro e w' ⟨rfl, ⟨nd, rfl⟩⟩; refine ⟨_, rfl, ?_⟩))
    go_ret
    exact ⟨by first | rfl | (simp [errW_none, errW_some] <;> rfl) | (simp [*, errW_none, errW_some] <;> rfl), by repeat (first | (with_reducible first | exact HB.out | apply Zi | apply Ze | apply Zla) | exact HB.out)⟩
   replace c20 := Bool.eq_false_iff.mpr c20
   subst c20
   have H1 : (some false) = some r := by rw [if_neg (show ¬ (false = true) by decide)] at H; exact H
   clear H
   have H := H1
   clear H1
   obtain rfl := Zgb H
   go_wp2_with (first | ((with_reducible refine gate_callee (f := 38) rfl ?_); refine goesL_ (some 35) rfl rfl Try.func38 (by kernel_rfl) rfl #[.slice A0 l0.length c0] rfl (by (try simp only [Zdb, Zeb, Zfb]); first | done | rfl | (simp only [Zha, Zga]; rfl)) ?_; (with_reducible refine (page_Join.calls _ _ l0 t109 t110 _ ?side1 ?side2 A17.out).mono ?_); (case side1 => repeat (first | exact (Zjb HO_0.out).2.2 | (with_reducible refine Zba ?_ _) | (with_reducible refine Zaa ?_ _) | (with_reducible refine Zca ?_))); (case side2 => exact (Zjb HO_0.out).2.1); rintro e w34 ⟨v111, rfl, ho0, hb⟩; refine ⟨_, rfl, ?_⟩; have n0_ := Zma (Kd.V_elder' (by (with_reducible repeat (first | apply Zv | apply Zu | apply Zw)); exact HO_0.out) (Kd.N_base (Kd.S_N (Kd.S_bound ho0))) hb); have n1_ := Zma (Kd.N_elder' (by (with_reducible repeat (first | apply Zs | apply Zr | apply Zt)); exact HO_3.out) (Kd.N_base (Kd.S_N (Kd.S_bound ho0))) hb); have n2_ := Zma (Kd.N_lower (Kd.N_mono (ok' := fun k_ => (P0_ k_ ∨ w.heap.size ≤ k_) ∧ some k_ ≠ (u3 : Value).ownBlock) (Kd.S_N (Kd.S_bound ho0)) (fun k_ hk_ => ⟨(.inr (Nat.le_trans (Zfa (by repeat (first | (with_reducible first | exact HB.out | apply Zi | apply Ze | apply Zla) | exact HB.out))) hk_.2.1)), (Kd.fresh' (Kd.N_lt (by (with_reducible repeat (first | apply Zs | apply Zr | apply Zt)); exact HO_3.out)) k_ hk_.2.1)⟩)) (Zfa (by repeat (first | (with_reducible first | exact HB.out | apply Zi | apply Ze | apply Zla) | exact HB.out)))); have n3_ := Zma (Zoa (by repeat (first | (with_reducible first | exact HB.out | apply Zi | apply Ze | apply Zla) | exact HB.out)) hb); clear HO_0 HO_3 HB; have HO_0 := n0_; have HO_3 := n1_; have HO112 := n2_; have HB := n3_; clear n0_ n1_ n2_ n3_; (try clear hb); (try clear hb2); (try clear hk); (try clear hi); (try clear ho0); obtain ⟨Ao35, co35, eo35⟩ := Kd.N_slice HO_3.out; subst eo35) | ((with_reducible refine gate_callee (f := 58) rfl ?_); refine goesL_ (some 40) rfl rfl Try.func58 (by kernel_rfl) rfl #[.slice Ao35 x3_1.length co35] rfl (by (try simp only [Zdb, Zeb, Zfb]); first | done | rfl | (simp only [Zha, Zga]; rfl)) ?_; (with_reducible refine (psalteryref18_Join.calls _ _ x3_1 t113 t114 _ ?side1 ?side2 A18.out).mono ?_); (case side1 => repeat (first | exact (Zlb HO_3.out).2.2 | (with_reducible refine Zba ?_ _) | (with_reducible refine Zaa ?_ _) | (with_reducible refine Zca ?_))); (case side2 => exact (Zlb HO_3.out).2.1); rintro e w36 ⟨v115, rfl, ho0, hb⟩; refine ⟨_, rfl, ?_⟩; have n0_ := Zma (Kd.V_elder' (by (with_reducible repeat (first | apply Zv | apply Zu | apply Zw)); exact HO_0.out) (Kd.N_base (Kd.S_N (Kd.S_bound ho0))) hb); have n1_ := Zma (Kd.N_elder' (by (with_reducible repeat (first | apply Zs | apply Zr | apply Zt)); exact HO_3.out) (Kd.N_base (Kd.S_N (Kd.S_bound ho0))) hb); have n2_ := Zma (Kd.N_elder' (by (with_reducible repeat (first | apply Zs | apply Zr | apply Zt)); exact HO112.out) (Kd.N_base (Kd.S_N (Kd.S_bound ho0))) hb); have n3_ := Zma (Kd.N_lower (Kd.N_mono (ok' := fun k_ => (P0_ k_ ∨ w.heap.size ≤ k_) ∧ some k_ ≠ (.slice Ao35 x3_1.length co35 : Value).ownBlock ∧ some k_ ≠ (v111 : Value).ownBlock) (Kd.S_N (Kd.S_bound ho0)) (fun k_ hk_ => ⟨(.inr (Nat.le_trans (Zfa (by repeat (first | (with_reducible first | exact HB.out | apply Zi | apply Ze | apply Zla) | exact HB.out))) hk_.2.1)), (Kd.fresh' (Kd.N_lt (by (with_reducible repeat (first | apply Zs | apply Zr | apply Zt)); exact HO_3.out)) k_ hk_.2.1), (Kd.fresh' (Kd.N_lt (by (with_reducible repeat (first | apply Zs | apply Zr | apply Zt)); exact HO112.out)) k_ hk_.2.1)⟩)) (Zfa (by repeat (first | (with_reducible first | exact HB.out | apply Zi | apply Ze | apply Zla) | exact HB.out)))); have n4_ := Zma (Zoa (by repeat (first | (with_reducible first | exact HB.out | apply Zi | apply Ze | apply Zla) | exact HB.out)) hb); clear HO_0 HO_3 HO112 HB; have HO_0 := n0_; have HO_3 := n1_; have HO112 := n2_; have HO116 := n3_; have HB := n4_; clear n0_ n1_ n2_ n3_ n4_; (try clear hb); (try clear hb2); (try clear hk); (try clear hi); (try clear ho0); obtain ⟨Ao37, co37, eo37⟩ := Kd.N_slice HO112.out; subst eo37; obtain ⟨Ao38, co38, eo38⟩ := Kd.N_slice HO116.out; subst eo38) | ((with_reducible refine gate_callee (f := 59) rfl ?_); refine goesL_ (some 45) rfl rfl Try.func59 (by kernel_rfl) rfl #[.slice Ao37 t109.length co37, .slice Ao38 t113.length co38] rfl (by (try simp only [Zdb, Zeb, Zfb]); first | done | rfl | (simp only [Zha, Zga]; rfl)) ?_; (with_reducible refine (psalteryref18_SameBytes.calls _ _ t109 _ _ t113 false _ ?side1 ?side2 ?side3 ?side4 A19.out).mono ?_); (case side1 => repeat (first | exact (Zlb HO112.out).2.2 | (with_reducible refine Zba ?_ _) | (with_reducible refine Zaa ?_ _) | (with_reducible refine Zca ?_))); (case side2 => exact (Zlb HO112.out).2.1); (case side3 => repeat (first | exact (Zlb HO116.out).2.2 | (with_reducible refine Zba ?_ _) | (with_reducible refine Zaa ?_ _) | (with_reducible refine Zca ?_))); (case side4 => exact (Zlb HO116.out).2.1); rintro e w' ⟨rfl, ⟨nd, rfl⟩⟩; refine ⟨_, rfl, ?_⟩))
   go_ret
   exact ⟨by first | rfl | (simp [errW_none, errW_some] <;> rfl) | (simp [*, errW_none, errW_some] <;> rfl), by repeat (first | (with_reducible first | exact HB.out | apply Zi | apply Ze | apply Zla) | exact HB.out)⟩

end Go.Proofs.Yteoclecadpapfaa.G
