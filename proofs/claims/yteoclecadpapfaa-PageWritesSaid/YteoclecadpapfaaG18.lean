/- What a call of psaltery/psalterylaw18.PageWrites does, told by a plain Lean function of its arguments. Written by a program for this claim. -/
import Derived.Test.YteoclecadpapfaaG0
import Derived.Test.YteoclecadpapfaaG32
import Derived.Test.YteoclecadpapfaaG33
import Derived.Test.YteoclecadpapfaaG34
import Derived.Test.YteoclecadpapfaaG37
import Derived.Test.YteoclecadpapfaaG55
import Derived.Test.YteoclecadpapfaaG56
import Derived.Test.YteoclecadpapfaaM24
namespace Go.Proofs.Yteoclecadpapfaa.G
open Go.RowKit Go.Proofs.YteoclecadpapfaaW.PrintWords Go.Proofs.YteoclecadpapfaaW.PrintLast Go.Proofs.YteoclecadpapfaaW.PrintMore
attribute [local go_sem] max2_int min2_int max_two min_two max_three min_three max_four min_four
set_option linter.unusedVariables false
set_option linter.unusedSimpArgs false

/-! ### psalterylaw18_PageWrites: function 18 -/
mutual
def psalterylaw18_PageWrites.j0 : Nat → List Int → Bool → Int → Int → Bool → Bool → Bool → Bool → List (List Int) → Option (Bool)
 | 0, _, _, _, _, _, _, _, _, _ => none
 | k + 1, x0, x13, x102000, x102001, x102002, x102003, x102004, x102005, x102006 => if x13 = true then ((psalterylaw18_knows.f).bind fun t103 => (some t103)) else ((page_Write.f x0 x102000 x102001 x102002 x102003 x102004 x102005 x102006).bind fun bt104 => (if (x0.length : Int) = 256 then ((psalterylaw18_As.f x102000 x102001 x102002 x102003 x102004 x102005 x102006).bind fun _ => ((psalteryref18_Right.f x102000 x102001 x102002 x102003 x102004 x102005 x102006).bind fun t108 => (psalterylaw18_PageWrites.j1 k x0 bt104.1 bt104.2 (!t108) x102000 x102001 x102002 x102003 x102004 x102005 x102006))) else (psalterylaw18_PageWrites.j1 k x0 bt104.1 bt104.2 true x102000 x102001 x102002 x102003 x102004 x102005 x102006)))
def psalterylaw18_PageWrites.j1 : Nat → List Int → List Int → Int → Bool → Int → Int → Bool → Bool → Bool → Bool → List (List Int) → Option (Bool)
 | 0, _, _, _, _, _, _, _, _, _, _, _ => none
 | k + 1, x0, x5, x6, x29, x102000, x102001, x102002, x102003, x102004, x102005, x102006 => if x29 = true then (if (x5.length : Int) = 0 then (if x6 = 1 then ((psalterylaw18_knows.f).bind fun t109 => (some t109)) else (some false)) else (some false)) else ((psalterylaw18_As.f x102000 x102001 x102002 x102003 x102004 x102005 x102006).bind fun _ => ((psalteryref18_Write.f x0 x102000 x102001 x102002 x102003 x102004 x102005 x102006).bind fun t110 => (if (strOfNums x5).toList = (strOfNums t110).toList then (if x6 = 0 then ((psalterylaw18_knows.f).bind fun t113 => (some t113)) else (some false)) else (some false))))
end
def psalterylaw18_PageWrites.f (k : Nat) (l0 : List Int) (a1_0 : Int) (a1_1 : Int) (a1_2 : Bool) (a1_3 : Bool) (a1_4 : Bool) (a1_5 : Bool) (l1_6 : List (List Int)) : Option (Bool) := (psalterylaw18_great.f a1_0 a1_1 a1_2 a1_3 a1_4 a1_5 l1_6).bind fun t102 => (if t102 = true then (psalterylaw18_PageWrites.j0 k l0 true a1_0 a1_1 a1_2 a1_3 a1_4 a1_5 l1_6) else (psalterylaw18_PageWrites.j0 k l0 (decide ((l0.length : Int) > 1000)) a1_0 a1_1 a1_2 a1_3 a1_4 a1_5 l1_6))
def psalterylaw18_PageWrites.T6 : Bool × List (List Nat × List Nat) := (true, [([], []), ([0], [0]), ([], []), ([], []), ([3], [3]), ([2, 4, 4], [2, 4]), ([5], [5]), ([1, 6], [1, 6]), ([7, 5], [7]), ([8], [8]), ([9, 8], [8, 9]), ([8, 10], [8, 10]), ([11, 8], [11]), ([12, 12], [12]), ([12, 13], [12, 13]), ([14, 13, 0, 1, 2, 3, 4, 5, 6, 7, 8, 9, 10, 11, 12, 13, 14], [14])])
def psalterylaw18_PageWrites.B6 : List Nat := [0, 1, 0, 0, 8, 28, 60, 127, 255, 511, 1023, 2047, 4095, 8191, 16383, 32767]
theorem psalterylaw18_PageWrites.tab6 : rtab .any (opsOf Try.f18 6) = psalterylaw18_PageWrites.T6 := by kernel_rfl
theorem psalterylaw18_PageWrites.bits6 : waitsOk psalterylaw18_PageWrites.T6.2 psalterylaw18_PageWrites.B6 = true := by kernel_rfl
set_option maxHeartbeats 8000000 in
set_option maxRecDepth 100000 in
theorem psalterylaw18_PageWrites.calls (k : Nat) (A0 : Option Addr) (c0 : Nat) (l0 : List Int) (a1_0 : Int) (a1_1 : Int) (a1_2 : Bool) (a1_3 : Bool) (a1_4 : Bool) (a1_5 : Bool) (A1_6 : Option Addr) (c1_6 : Nat) (l1_6 : List (List Int)) (w : World) (hr0 : Kd.C (Kd.int .u32) w A0 l0.length l0) (hc0 : l0.length ≤ c0) (hr1_6 : Kd.C (Kd.slice 5 (Kd.int .u8)) w A1_6 l1_6.length l1_6) (hc1_6 : l1_6.length ≤ c1_6) (h : psalterylaw18_PageWrites.f k l0 a1_0 a1_1 a1_2 a1_3 a1_4 a1_5 l1_6 = some true) :
  Calls Try.prog 18 #[.slice A0 l0.length c0, .agg #[.int .i64 a1_0, .int .i64 a1_1, .bool a1_2, .bool a1_3, .bool a1_4, .bool a1_5, .slice A1_6 l1_6.length c1_6]] w fun e w' => e = .returned (.bool true) ∧ Below w.heap.size w w' := by
 have hu43 := Try.underlying43
 have HR0 := Zma hr0
 have HC0 := Zma hc0
 clear hr0 hc0
 have HR1_6 := Zma hr1_6
 have HC1_6 := Zma hc1_6
 clear hr1_6 hc1_6
 have HB := Zma (Below.refl w.heap.size w)
 have H : ((psalterylaw18_great.f a1_0 a1_1 a1_2 a1_3 a1_4 a1_5 l1_6).bind fun t102 => (if t102 = true then (psalterylaw18_PageWrites.j0 k l0 true a1_0 a1_1 a1_2 a1_3 a1_4 a1_5 l1_6) else (psalterylaw18_PageWrites.j0 k l0 (decide ((l0.length : Int) > 1000)) a1_0 a1_1 a1_2 a1_3 a1_4 a1_5 l1_6))) = some true := h
 clear h
 have HC3 := Zma H
 clear H
 go_enter Try.func18, Try.ntmps18
 go_upto_region 1 with (first | ((with_reducible refine gate_dst (N := 3) rfl ?_); (try (refine gate_guard (by rfl) ?_; dsimp only)); refine box_event ?hg (N := 3) ?hd (cs := #[.int .i64 a1_0, .int .i64 a1_1, .bool a1_2, .bool a1_3, .bool a1_4, .bool a1_5, .slice A1_6 l1_6.length c1_6]) (t := 43) ?hr ?_; (case hd => rfl); (case hg => rfl); (case hr => first | (go_simp; done) | (go_simp; rfl)); intro gb101 hg w4 hbox hb; have n0_ := Zma (Zoa bq hb); have n1_ := Zma (hbox); have n2_ := Zma ((by rw [hg]; exact (Zfa bq) : w.heap.size ≤ gb101)); have n3_ := Zma ((by rw [hg]; exact (Zfa bq) : w.heap.size ≤ gb101)); clear HB; have HB := n0_; have BK101 := n1_; have GW101 := n2_; have GE101 := n3_; clear n0_ n1_ n2_ n3_ hb hbox hg))
 (try simp only [Act.put, Za, Zb, Zc])
 go_cut [13] (fun v13 wc => ∃ (kq : Nat) (x13_2 : Bool), v13 = .bool x13_2 ∧ Aside0 (psalterylaw18_PageWrites.j0 kq l0 x13_2 a1_0 a1_1 a1_2 a1_3 a1_4 a1_5 l1_6 = some true) ∧ Aside0 (kq ≤ k) ∧ Aside0 (wc.heap[gb101]? = some (.cells #[.int .i64 a1_0, .int .i64 a1_1, .bool a1_2, .bool a1_3, .bool a1_4, .bool a1_5, (.slice A1_6 l1_6.length c1_6)] 43 (0, 0))) ∧ Aside0 (Below w.heap.size w wc))
 case first =>
  have H := HC3.out
  clear HC3
  replace H := Option.bind_eq_some_iff.mp H
  obtain ⟨t102, A50, H⟩ := H
  replace H : (if t102 = true then (psalterylaw18_PageWrites.j0 k l0 true a1_0 a1_1 a1_2 a1_3 a1_4 a1_5 l1_6) else (psalterylaw18_PageWrites.j0 k l0 (decide ((l0.length : Int) > 1000)) a1_0 a1_1 a1_2 a1_3 a1_4 a1_5 l1_6)) = some true := H
  have A5 := Zma A50
  clear A50
  by_cases c6 : t102 = true
  ·subst c6
   have H1 : (psalterylaw18_PageWrites.j0 k l0 true a1_0 a1_1 a1_2 a1_3 a1_4 a1_5 l1_6) = some true := by rw [if_pos rfl] at H; exact H
   clear H
   have H := H1
   clear H1
   have H' := Zma H
   clear H
   obtain ⟨hcz7_0, hcz7_1, hcz7_2, hcz7_3, hcz7_4, hcz7_5, hcz7_6, hfz7_0, hfz7_1, hfz7_2, hfz7_3, hfz7_4, hfz7_5, hfz7_6⟩ := blk7 BK101.out
   go_wp2_with (first | ((with_reducible refine gate_callee (f := 32) rfl ?_); refine goesL_ (some 8) rfl rfl Try.func32 (by kernel_rfl) rfl #[.agg #[.int .i64 a1_0, .int .i64 a1_1, .bool a1_2, .bool a1_3, .bool a1_4, .bool a1_5, .slice A1_6 l1_6.length c1_6]] rfl (by (try simp only [Zdb, Zeb, Zfb]); first | done | rfl | (simp only [Zha, Zga]; rfl)) ?_; (with_reducible refine (psalterylaw18_great.calls a1_0 a1_1 a1_2 a1_3 a1_4 a1_5 _ _ l1_6 true _ ?side1 ?side2 A5.out).mono ?_); (case side1 => exact cq ((Kd.C_below HR1_6.out HB.out))); (case side2 => exact HC1_6.out); rintro e w8 ⟨rfl, hb⟩; refine ⟨_, rfl, ?_⟩; have n0_ := Zma (Zab (g := gb101) (o := .cells #[.int .i64 a1_0, .int .i64 a1_1, .bool a1_2, .bool a1_3, .bool a1_4, .bool a1_5, .slice A1_6 l1_6.length c1_6] 43 (0, 0)) (kq BK101.out) hb); have n1_ := Zma (Zoa bq hb); clear BK101 HB; have BK101 := n0_; have HB := n1_; clear n0_ n1_; (try clear hb); (try clear hb2); (try clear hk); (try clear hi)))
   go_meet
   case rel => exact ⟨_, (true), (by first | rfl | (simp; done) | (simp [*]; done)), H', ⟨by first | omega | exact Zra _⟩, ⟨kq BK101.out⟩, ⟨bq⟩⟩
  replace c6 := Bool.eq_false_iff.mpr c6
  subst c6
  have H1 : (psalterylaw18_PageWrites.j0 k l0 (decide ((l0.length : Int) > 1000)) a1_0 a1_1 a1_2 a1_3 a1_4 a1_5 l1_6) = some true := by rw [if_neg (show ¬ (false = true) by decide)] at H; exact H
  clear H
  have H := H1
  clear H1
  have H' := Zma H
  clear H
  obtain ⟨hcz9_0, hcz9_1, hcz9_2, hcz9_3, hcz9_4, hcz9_5, hcz9_6, hfz9_0, hfz9_1, hfz9_2, hfz9_3, hfz9_4, hfz9_5, hfz9_6⟩ := blk7 BK101.out
  go_wp2_with (first | ((with_reducible refine gate_callee (f := 32) rfl ?_); refine goesL_ (some 8) rfl rfl Try.func32 (by kernel_rfl) rfl #[.agg #[.int .i64 a1_0, .int .i64 a1_1, .bool a1_2, .bool a1_3, .bool a1_4, .bool a1_5, .slice A1_6 l1_6.length c1_6]] rfl (by (try simp only [Zdb, Zeb, Zfb]); first | done | rfl | (simp only [Zha, Zga]; rfl)) ?_; (with_reducible refine (psalterylaw18_great.calls a1_0 a1_1 a1_2 a1_3 a1_4 a1_5 _ _ l1_6 false _ ?side1 ?side2 A5.out).mono ?_); (case side1 => exact cq ((Kd.C_below HR1_6.out HB.out))); (case side2 => exact HC1_6.out); rintro e w10 ⟨rfl, hb⟩; refine ⟨_, rfl, ?_⟩; have n0_ := Zma (Zab (g := gb101) (o := .cells #[.int .i64 a1_0, .int .i64 a1_1, .bool a1_2, .bool a1_3, .bool a1_4, .bool a1_5, .slice A1_6 l1_6.length c1_6] 43 (0, 0)) (kq BK101.out) hb); have n1_ := Zma (Zoa bq hb); clear BK101 HB; have BK101 := n0_; have HB := n1_; clear n0_ n1_; (try clear hb); (try clear hb2); (try clear hk); (try clear hi)))
  go_meet
  case rel => exact ⟨_, (decide ((l0.length : Int) > 1000)), (by first | rfl | (simp; done) | (simp [*]; done)), H', ⟨by first | omega | exact Zra _⟩, ⟨kq BK101.out⟩, ⟨bq⟩⟩
 case rest =>
  clear HC3
  try clear c1
  try clear p2
  try clear c3
  try clear c6
  try clear hcz7_0
  try clear hcz7_1
  try clear hcz7_2
  try clear hcz7_3
  try clear hcz7_4
  try clear hcz7_5
  try clear hcz7_6
  try clear hcz9_0
  try clear hcz9_1
  try clear hcz9_2
  try clear hcz9_3
  try clear hcz9_4
  try clear hcz9_5
  try clear hcz9_6
  try clear hfz7_0
  try clear hfz7_1
  try clear hfz7_2
  try clear hfz7_3
  try clear hfz7_4
  try clear hfz7_5
  try clear hfz7_6
  try clear hfz9_0
  try clear hfz9_1
  try clear hfz9_2
  try clear hfz9_3
  try clear hfz9_4
  try clear hfz9_5
  try clear hfz9_6
  obtain ⟨kq, x13_2, rfl, HA, HJ2, BK101, HB⟩ := hcut
  cases kq with
  | zero => exact absurd HA.out (by simp [psalterylaw18_PageWrites.j0])
  | succ kj2 =>
   have H := HA.out
   clear HA
   simp only [psalterylaw18_PageWrites.j0] at H
   by_cases c11 : x13_2 = true
   ·subst c11
    have H1 : ((psalterylaw18_knows.f).bind fun t103 => (some t103)) = some true := by rw [if_pos rfl] at H; exact H
    clear H
    have H := H1
    clear H1
    replace H := Option.bind_eq_some_iff.mp H
    obtain ⟨t103, A120, H⟩ := H
    replace H : (some t103) = some true := H
    have A12 := Zma A120
    clear A120
    obtain rfl := Zgb H
    go_wp2_with (first | ((with_reducible refine gate_callee (f := 33) rfl ?_); refine goesL_ (some 14) rfl rfl Try.func33 (by kernel_rfl) rfl #[] rfl (by (try simp only [Zdb, Zeb, Zfb]); first | done | rfl | (simp only [Zha, Zga]; rfl)) ?_; (with_reducible refine (psalterylaw18_knows.calls  true _ A12.out).mono ?_); rintro e w13 ⟨rfl, hb⟩; refine ⟨_, rfl, ?_⟩; have n0_ := Zma (Zab (g := gb101) (o := .cells #[.int .i64 a1_0, .int .i64 a1_1, .bool a1_2, .bool a1_3, .bool a1_4, .bool a1_5, .slice A1_6 l1_6.length c1_6] 43 (0, 0)) (kq BK101.out) hb); have n1_ := Zma (Zoa bq hb); clear BK101 HB; have BK101 := n0_; have HB := n1_; clear n0_ n1_; (try clear hb); (try clear hb2); (try clear hk); (try clear hi)))
    go_ret
    exact ⟨by first | rfl | (simp [errW_none, errW_some] <;> rfl) | (simp [*, errW_none, errW_some] <;> rfl), bq⟩
   replace c11 := Bool.eq_false_iff.mpr c11
   subst c11
   have H1 : ((page_Write.f l0 a1_0 a1_1 a1_2 a1_3 a1_4 a1_5 l1_6).bind fun bt104 => (if (l0.length : Int) = 256 then ((psalterylaw18_As.f a1_0 a1_1 a1_2 a1_3 a1_4 a1_5 l1_6).bind fun _ => ((psalteryref18_Right.f a1_0 a1_1 a1_2 a1_3 a1_4 a1_5 l1_6).bind fun t108 => (psalterylaw18_PageWrites.j1 kj2 l0 bt104.1 bt104.2 (!t108) a1_0 a1_1 a1_2 a1_3 a1_4 a1_5 l1_6))) else (psalterylaw18_PageWrites.j1 kj2 l0 bt104.1 bt104.2 true a1_0 a1_1 a1_2 a1_3 a1_4 a1_5 l1_6))) = some true := by rw [if_neg (show ¬ (false = true) by decide)] at H; exact H
   clear H
   have H := H1
   clear H1
   replace H := Option.bind_eq_some_iff.mp H
   obtain ⟨⟨t104, t107⟩, A140, H⟩ := H
   replace H : (if (l0.length : Int) = 256 then ((psalterylaw18_As.f a1_0 a1_1 a1_2 a1_3 a1_4 a1_5 l1_6).bind fun _ => ((psalteryref18_Right.f a1_0 a1_1 a1_2 a1_3 a1_4 a1_5 l1_6).bind fun t108 => (psalterylaw18_PageWrites.j1 kj2 l0 t104 t107 (!t108) a1_0 a1_1 a1_2 a1_3 a1_4 a1_5 l1_6))) else (psalterylaw18_PageWrites.j1 kj2 l0 t104 t107 true a1_0 a1_1 a1_2 a1_3 a1_4 a1_5 l1_6)) = some true := H
   have A14 := Zma A140
   clear A140
   have HC15 := Zma H
   clear H
   obtain ⟨hcz16_0, hcz16_1, hcz16_2, hcz16_3, hcz16_4, hcz16_5, hcz16_6, hfz16_0, hfz16_1, hfz16_2, hfz16_3, hfz16_4, hfz16_5, hfz16_6⟩ := blk7 BK101.out
   go_upto_region 4 with (first | ((with_reducible refine gate_callee (f := 34) rfl ?_); refine goesL_ (some 18) rfl rfl Try.func34 (by kernel_rfl) rfl #[.slice A0 l0.length c0, .agg #[.int .i64 a1_0, .int .i64 a1_1, .bool a1_2, .bool a1_3, .bool a1_4, .bool a1_5, .slice A1_6 l1_6.length c1_6]] rfl (by (try simp only [Zdb, Zeb, Zfb]); first | done | rfl | (simp only [Zha, Zga]; rfl)) ?_; (with_reducible refine (page_Write.calls _ _ l0 a1_0 a1_1 a1_2 a1_3 a1_4 a1_5 _ _ l1_6 t104 t107 _ ?side1 ?side2 ?side3 ?side4 A14.out).mono ?_); (case side1 => exact cq ((Kd.C_below HR0.out HB.out))); (case side2 => exact HC0.out); (case side3 => exact cq ((Kd.C_below HR1_6.out HB.out))); (case side4 => exact HC1_6.out); rintro e w17 ⟨v105, rfl, ho0, hb⟩; refine ⟨_, rfl, ?_⟩; have n0_ := Zma (Zxa ho0 (Zfa bq)); have n1_ := Zma (Zab (g := gb101) (o := .cells #[.int .i64 a1_0, .int .i64 a1_1, .bool a1_2, .bool a1_3, .bool a1_4, .bool a1_5, .slice A1_6 l1_6.length c1_6] 43 (0, 0)) (kq BK101.out) hb); have n2_ := Zma (Zoa bq hb); clear BK101 HB; have HO106 := n0_; have BK101 := n1_; have HB := n2_; clear n0_ n1_ n2_; (try clear hb); (try clear hb2); (try clear hk); (try clear hi); (try clear ho0)))
   (try simp only [Act.put, Za, Zb, Zc])
   go_cut [29] (fun v29 wc => ∃ (kq : Nat) (x29_14 : Bool), v29 = .bool x29_14 ∧ Aside0 (psalterylaw18_PageWrites.j1 kq l0 t104 t107 x29_14 a1_0 a1_1 a1_2 a1_3 a1_4 a1_5 l1_6 = some true) ∧ Aside0 (kq ≤ kj2) ∧ Aside0 (Kd.R (Kd.int .u8) 5 wc w.heap.size (fun _ => True) v105 t104) ∧ Aside0 (wc.heap[gb101]? = some (.cells #[.int .i64 a1_0, .int .i64 a1_1, .bool a1_2, .bool a1_3, .bool a1_4, .bool a1_5, (.slice A1_6 l1_6.length c1_6)] 43 (0, 0))) ∧ Aside0 (Below w.heap.size w wc))
   case first =>
    have H := HC15.out
    clear HC15
    by_cases c18 : (l0.length : Int) = 256
    ·rw [if_pos c18] at H
     have c18b0 : ((l0.length : Int) == 256) = true := beq_iff_eq.mpr c18
     have c18b1 : ((l0.length : Int) != 256) = false := bne_eq_false_iff_eq.mpr c18
     clear c18
     (first | rw [c18b0] | (simp only [i64_w, i32_w]; rw [c18b0]) | skip)
     replace H := Option.bind_eq_some_iff.mp H
     obtain ⟨_, A190, H⟩ := H
     replace H : ((psalteryref18_Right.f a1_0 a1_1 a1_2 a1_3 a1_4 a1_5 l1_6).bind fun t108 => (psalterylaw18_PageWrites.j1 kj2 l0 t104 t107 (!t108) a1_0 a1_1 a1_2 a1_3 a1_4 a1_5 l1_6)) = some true := H
     have A19 := Zma A190
     clear A190
     replace H := Option.bind_eq_some_iff.mp H
     obtain ⟨t108, A200, H⟩ := H
     replace H : (psalterylaw18_PageWrites.j1 kj2 l0 t104 t107 (!t108) a1_0 a1_1 a1_2 a1_3 a1_4 a1_5 l1_6) = some true := H
     have A20 := Zma A200
     clear A200
     have H' := Zma H
     clear H
     obtain ⟨hcz21_0, hcz21_1, hcz21_2, hcz21_3, hcz21_4, hcz21_5, hcz21_6, hfz21_0, hfz21_1, hfz21_2, hfz21_3, hfz21_4, hfz21_5, hfz21_6⟩ := blk7 BK101.out
     go_wp2_with (first | (go_at_call 37; (with_reducible refine (psalterylaw18_As.calls a1_0 a1_1 a1_2 a1_3 a1_4 a1_5 _ _ l1_6  _ ?side1 ?side2 A19.out).mono ?_); (case side1 => exact cq ((Kd.C_below HR1_6.out HB.out))); (case side2 => exact HC1_6.out); rintro e w22 ⟨rfl, hb⟩; have n0_ := Zma (Zza (rq HO106.out) hb); have n1_ := Zma (Zab (g := gb101) (o := .cells #[.int .i64 a1_0, .int .i64 a1_1, .bool a1_2, .bool a1_3, .bool a1_4, .bool a1_5, .slice A1_6 l1_6.length c1_6] 43 (0, 0)) (kq BK101.out) hb); have n2_ := Zma (Zoa bq hb); clear HO106 BK101 HB; have HO106 := n0_; have BK101 := n1_; have HB := n2_; clear n0_ n1_ n2_; (try clear hb); (try clear hb2); (try clear hk); (try clear hi)) | (go_at_call 55; (with_reducible refine (psalteryref18_Right.calls a1_0 a1_1 a1_2 a1_3 a1_4 a1_5 _ _ l1_6 t108 _ ?side1 ?side2 A20.out).mono ?_); (case side1 => exact cq ((Kd.C_below HR1_6.out HB.out))); (case side2 => exact HC1_6.out); rintro e w23 ⟨rfl, hb⟩; have n0_ := Zma (Zza (rq HO106.out) hb); have n1_ := Zma (Zab (g := gb101) (o := .cells #[.int .i64 a1_0, .int .i64 a1_1, .bool a1_2, .bool a1_3, .bool a1_4, .bool a1_5, .slice A1_6 l1_6.length c1_6] 43 (0, 0)) (kq BK101.out) hb); have n2_ := Zma (Zoa bq hb); clear HO106 BK101 HB; have HO106 := n0_; have BK101 := n1_; have HB := n2_; clear n0_ n1_ n2_; (try clear hb); (try clear hb2); (try clear hk); (try clear hi)))
     go_meet
     case rel => exact ⟨_, (!t108), (by first | rfl | (simp; done) | (simp [*]; done)), H', ⟨by have := HJ2.out; first | omega | exact Zra _⟩, ⟨rq HO106.out⟩, ⟨kq BK101.out⟩, ⟨bq⟩⟩
    rw [if_neg c18] at H
    have c18b0 : ((l0.length : Int) == 256) = false := beq_eq_false_iff_ne.mpr c18
    have c18b1 : ((l0.length : Int) != 256) = true := bne_iff_ne.mpr c18
    (first | rw [c18b0] | (simp only [i64_w, i32_w]; rw [c18b0]) | skip)
    have H' := Zma H
    clear H
    go_wp2
    go_meet
    case rel => exact ⟨_, (true), (by first | rfl | (simp; done) | (simp [*]; done)), H', ⟨by have := HJ2.out; first | omega | exact Zra _⟩, ⟨rq HO106.out⟩, ⟨kq BK101.out⟩, ⟨bq⟩⟩
   case rest =>
    clear HC15
    try clear c1
    try clear p2
    try clear c3
    try clear c6
    try clear c11
    try clear c18
    try clear c18b0
    try clear c18b1
    try clear hcz16_0
    try clear hcz16_1
    try clear hcz16_2
    try clear hcz16_3
    try clear hcz16_4
    try clear hcz16_5
    try clear hcz16_6
    try clear hcz21_0
    try clear hcz21_1
    try clear hcz21_2
    try clear hcz21_3
    try clear hcz21_4
    try clear hcz21_5
    try clear hcz21_6
    try clear hcz7_0
    try clear hcz7_1
    try clear hcz7_2
    try clear hcz7_3
    try clear hcz7_4
    try clear hcz7_5
    try clear hcz7_6
    try clear hcz9_0
    try clear hcz9_1
    try clear hcz9_2
    try clear hcz9_3
    try clear hcz9_4
    try clear hcz9_5
    try clear hcz9_6
    try clear hfz16_0
    try clear hfz16_1
    try clear hfz16_2
    try clear hfz16_3
    try clear hfz16_4
    try clear hfz16_5
    try clear hfz16_6
    try clear hfz21_0
    try clear hfz21_1
    try clear hfz21_2
    try clear hfz21_3
    try clear hfz21_4
    try clear hfz21_5
    try clear hfz21_6
    try clear hfz7_0
    try clear hfz7_1
    try clear hfz7_2
    try clear hfz7_3
    try clear hfz7_4
    try clear hfz7_5
    try clear hfz7_6
    try clear hfz9_0
    try clear hfz9_1
    try clear hfz9_2
    try clear hfz9_3
    try clear hfz9_4
    try clear hfz9_5
    try clear hfz9_6
    try clear p2
    obtain ⟨kq, x29_14, rfl, HA, HJ14, HO_5, BK101, HB⟩ := hcut
    cases kq with
    | zero => exact absurd HA.out (by simp [psalterylaw18_PageWrites.j1])
    | succ kj14 =>
     have H := HA.out
     clear HA
     simp only [psalterylaw18_PageWrites.j1] at H
     by_cases c24 : x29_14 = true
     ·subst c24
      have H1 : (if (t104.length : Int) = 0 then (if t107 = 1 then ((psalterylaw18_knows.f).bind fun t109 => (some t109)) else (some false)) else (some false)) = some true := by rw [if_pos rfl] at H; exact H
      clear H
      have H := H1
      clear H1
      by_cases c25 : (t104.length : Int) = 0
      rotate_left
      ·rw [if_neg c25] at H
       exact absurd H (by simp)
      rw [if_pos c25] at H
      have c25b0 : ((t104.length : Int) == 0) = true := beq_iff_eq.mpr c25
      have c25b1 : ((t104.length : Int) != 0) = false := bne_eq_false_iff_eq.mpr c25
      clear c25
      by_cases c26 : t107 = 1
      rotate_left
      ·rw [if_neg c26] at H
       exact absurd H (by simp)
      rw [if_pos c26] at H
      have c26b0 : (t107 == 1) = true := beq_iff_eq.mpr c26
      have c26b1 : (t107 != 1) = false := bne_eq_false_iff_eq.mpr c26
      clear c26
      replace H := Option.bind_eq_some_iff.mp H
      obtain ⟨t109, A270, H⟩ := H
      replace H : (some t109) = some true := H
      have A27 := Zma A270
      clear A270
      obtain rfl := Zgb H
      obtain ⟨Ao28, co28, eo28⟩ := Kd.R_slice HO_5.out
      subst eo28
      go_wp2_with (first | (go_at_call 33; (with_reducible refine (psalterylaw18_knows.calls  true _ A27.out).mono ?_); rintro e w29 ⟨rfl, hb⟩; have n0_ := Zma (Zza (rq HO_5.out) hb); have n1_ := Zma (Zab (g := gb101) (o := .cells #[.int .i64 a1_0, .int .i64 a1_1, .bool a1_2, .bool a1_3, .bool a1_4, .bool a1_5, .slice A1_6 l1_6.length c1_6] 43 (0, 0)) (kq BK101.out) hb); have n2_ := Zma (Zoa bq hb); clear HO_5 BK101 HB; have HO_5 := n0_; have BK101 := n1_; have HB := n2_; clear n0_ n1_ n2_; (try clear hb); (try clear hb2); (try clear hk); (try clear hi)))
      go_ret
      exact ⟨by first | rfl | (simp [errW_none, errW_some] <;> rfl) | (simp [*, errW_none, errW_some] <;> rfl), bq⟩
     replace c24 := Bool.eq_false_iff.mpr c24
     subst c24
     have H1 : ((psalterylaw18_As.f a1_0 a1_1 a1_2 a1_3 a1_4 a1_5 l1_6).bind fun _ => ((psalteryref18_Write.f l0 a1_0 a1_1 a1_2 a1_3 a1_4 a1_5 l1_6).bind fun t110 => (if (strOfNums t104).toList = (strOfNums t110).toList then (if t107 = 0 then ((psalterylaw18_knows.f).bind fun t113 => (some t113)) else (some false)) else (some false)))) = some true := by rw [if_neg (show ¬ (false = true) by decide)] at H; exact H
     clear H
     have H := H1
     clear H1
     replace H := Option.bind_eq_some_iff.mp H
     obtain ⟨_, A320, H⟩ := H
     replace H : ((psalteryref18_Write.f l0 a1_0 a1_1 a1_2 a1_3 a1_4 a1_5 l1_6).bind fun t110 => (if (strOfNums t104).toList = (strOfNums t110).toList then (if t107 = 0 then ((psalterylaw18_knows.f).bind fun t113 => (some t113)) else (some false)) else (some false))) = some true := H
     have A32 := Zma A320
     clear A320
     replace H := Option.bind_eq_some_iff.mp H
     obtain ⟨t110, A330, H⟩ := H
     replace H : (if (strOfNums t104).toList = (strOfNums t110).toList then (if t107 = 0 then ((psalterylaw18_knows.f).bind fun t113 => (some t113)) else (some false)) else (some false)) = some true := H
     have A33 := Zma A330
     clear A330
     by_cases c34 : (strOfNums t104).toList = (strOfNums t110).toList
     rotate_left
     ·rw [if_neg c34] at H
      exact absurd H (by simp)
     rw [if_pos c34] at H
     have c34b0 : ((strOfNums t104).toList == (strOfNums t110).toList) = true := beq_iff_eq.mpr c34
     have c34b1 : ((strOfNums t104).toList != (strOfNums t110).toList) = false := bne_eq_false_iff_eq.mpr c34
     clear c34
     by_cases c35 : t107 = 0
     rotate_left
     ·rw [if_neg c35] at H
      exact absurd H (by simp)
     rw [if_pos c35] at H
     have c35b0 : (t107 == 0) = true := beq_iff_eq.mpr c35
     have c35b1 : (t107 != 0) = false := bne_eq_false_iff_eq.mpr c35
     clear c35
     replace H := Option.bind_eq_some_iff.mp H
     obtain ⟨t113, A360, H⟩ := H
     replace H : (some t113) = some true := H
     have A36 := Zma A360
     clear A360
     obtain rfl := Zgb H
     try go_wp2
     have n0_ := Zma (Zq HO_5.out)
     have n1_ := Zma (Zl BK101.out)
     have n2_ := Zma (Zla HB.out)
     clear HO_5 BK101 HB; have HO_5 := n0_; have BK101 := n1_; have HB := n2_; clear n0_ n1_ n2_
     have hcv38 := own_string (P := Try.prog) Try.underlying28 Try.underlying5 Try.underlying9 (Kd.own_of_R HO_5.out)
     refine start_ (n := 16) (S := fun w' => (convert 28 9 v105).run Try.prog w' = .ok (.string (strOfNums t104)) w' ∧ w'.cell? ⟨gb101, 0, none⟩ = some (.int .i64 a1_0) ∧ w'.cell? ⟨gb101, 1, none⟩ = some (.int .i64 a1_1) ∧ w'.cell? ⟨gb101, 2, none⟩ = some (.bool a1_2) ∧ w'.cell? ⟨gb101, 3, none⟩ = some (.bool a1_3) ∧ w'.cell? ⟨gb101, 4, none⟩ = some (.bool a1_4) ∧ w'.cell? ⟨gb101, 5, none⟩ = some (.bool a1_5) ∧ w'.cell? ⟨gb101, 6, none⟩ = some (.slice A1_6 l1_6.length c1_6)) (ds := []) #[ZF,ZF,ZF,ZF,ZF,ZF,ZF,ZF,ZF,ZF,ZF,ZF,ZF,ZF,ZF,ZF] (by kernel_rfl) rfl rfl ⟨hcv38, (Zd BK101.out 0).trans rfl, (Zd BK101.out 1).trans rfl, (Zd BK101.out 2).trans rfl, (Zd BK101.out 3).trans rfl, (Zd BK101.out 4).trans rfl, (Zd BK101.out 5).trans rfl, (Zd BK101.out 6).trans rfl⟩ (fun hHeld => ?_); refine with_tabW psalterylaw18_PageWrites.tab6 psalterylaw18_PageWrites.bits6 (fun HT_ HW_ => ?_)
     generalize wc.drew = w37 at HO_5 BK101 HB hHeld ⊢
     refine p1 HT_ 0 40 ?_
     refine take_ (i := 1) (N := some 41) (v := ?_) (a' := ?_) #[ZT,ZT,ZF,ZF,ZF,ZF,ZF,ZF,ZF,ZF,ZF,ZF,ZF,ZF,ZF,ZF] rfl rfl (take_ofW HT_.out HW_.out (by kernel_rfl)) (fun _ _ _ h => h) (Or.inl ⟨by rfl, ?_⟩) hHeld ?_ ?_
     rotate_left
     ·rintro w' ⟨sc, s0, s1, s2, s3, s4, s5, s6⟩
      go_simp
      with_reducible rfl
     rotate_left
     ·simp only [Act.put, Za, Zb, Zc, i64_w, i32_w]
      rfl
     refine p1 HT_ 2 42 ?_
     refine take_ (i := 3) (N := some 43) (v := ?_) (a' := ?_) #[ZT,ZT,ZT,ZT,ZF,ZF,ZF,ZF,ZF,ZF,ZF,ZF,ZF,ZF,ZF,ZF] rfl rfl (take_ofW HT_.out HW_.out (by kernel_rfl)) (fun _ _ _ h => h) (Or.inl ⟨by rfl, ?_⟩) hHeld ?_ ?_
     rotate_left
     ·rintro w' ⟨sc, s0, s1, s2, s3, s4, s5, s6⟩
      go_simp
      with_reducible rfl
     rotate_left
     ·simp only [Act.put, Za, Zb, Zc, i64_w, i32_w]
      rfl
     refine o1 HT_ 4 (some 44) (fun K hK => ?_)
     refine goes_ Try.func37 (by kernel_rfl) rfl #[.agg #[.int .i64 a1_0, .int .i64 a1_1, .bool a1_2, .bool a1_3, .bool a1_4, .bool a1_5, .slice A1_6 l1_6.length c1_6]] (by rfl) rfl rfl (by (try simp only [Zdb, Zeb, Zfb]); first | done | rfl | (simp only [Zha, Zga]; rfl)) ?_
     with_reducible refine (psalterylaw18_As.calls a1_0 a1_1 a1_2 a1_3 a1_4 a1_5 _ _ l1_6  _ ?side1 ?side2 A32.out).mono ?_
     (case side1 => exact cq ((Kd.C_below HR1_6.out HB.out)))
     (case side2 => exact HC1_6.out)
     rintro e w39 ⟨rfl, hb⟩
     refine ⟨_, rfl, ?_⟩
     have n0_ := Zma (Zza (rq HO_5.out) hb)
     have n1_ := Zma (Zab (g := gb101) (o := .cells #[.int .i64 a1_0, .int .i64 a1_1, .bool a1_2, .bool a1_3, .bool a1_4, .bool a1_5, .slice A1_6 l1_6.length c1_6] 43 (0, 0)) (kq BK101.out) hb)
     have n2_ := Zma (Zoa bq hb)
     clear HO_5 BK101 HB; have HO_5 := n0_; have BK101 := n1_; have HB := n2_; clear n0_ n1_ n2_
     (try clear hb)
     refine hK.out _ _ ⟨own_string (P := Try.prog) Try.underlying28 Try.underlying5 Try.underlying9 (Kd.own_of_R HO_5.out), (Zd BK101.out 0).trans rfl, (Zd BK101.out 1).trans rfl, (Zd BK101.out 2).trans rfl, (Zd BK101.out 3).trans rfl, (Zd BK101.out 4).trans rfl, (Zd BK101.out 5).trans rfl, (Zd BK101.out 6).trans rfl⟩ (fun hHeld => ?_)
     clear hK K
     refine n1 44 ?_
     refine o1 HT_ 5 (some 45) (fun K hK => ?_)
     refine goes_ Try.func56 (by kernel_rfl) rfl #[.slice A0 l0.length c0, .agg #[.int .i64 a1_0, .int .i64 a1_1, .bool a1_2, .bool a1_3, .bool a1_4, .bool a1_5, .slice A1_6 l1_6.length c1_6]] (by rfl) rfl rfl (by (try simp only [Zdb, Zeb, Zfb]); first | done | rfl | (simp only [Zha, Zga]; rfl)) ?_
     with_reducible refine (psalteryref18_Write.calls _ _ l0 a1_0 a1_1 a1_2 a1_3 a1_4 a1_5 _ _ l1_6 t110 _ ?side1 ?side2 ?side3 ?side4 A33.out).mono ?_
     (case side1 => exact cq ((Kd.C_below HR0.out HB.out)))
     (case side2 => exact HC0.out)
     (case side3 => exact cq ((Kd.C_below HR1_6.out HB.out)))
     (case side4 => exact HC1_6.out)
     rintro e w40 ⟨v111, rfl, ho0, hb⟩
     refine ⟨_, rfl, ?_⟩
     have n0_ := Zma (Kd.R_elder' (rq HO_5.out) (Kd.R_base ho0) hb)
     have n1_ := Zma (Zxa (Kd.R_new' ho0 (Kd.R_lt (rq HO_5.out))) (Zfa bq))
     have n2_ := Zma (Zab (g := gb101) (o := .cells #[.int .i64 a1_0, .int .i64 a1_1, .bool a1_2, .bool a1_3, .bool a1_4, .bool a1_5, .slice A1_6 l1_6.length c1_6] 43 (0, 0)) (kq BK101.out) hb)
     have n3_ := Zma (Zoa bq hb)
     clear HO_5 BK101 HB; have HO_5 := n0_; have HO112 := n1_; have BK101 := n2_; have HB := n3_; clear n0_ n1_ n2_ n3_
     (try clear hb)
     (try clear ho0)
     refine hK.out _ _ ⟨own_string (P := Try.prog) Try.underlying28 Try.underlying5 Try.underlying9 (Kd.own_of_R HO_5.out), (Zd BK101.out 0).trans rfl, (Zd BK101.out 1).trans rfl, (Zd BK101.out 2).trans rfl, (Zd BK101.out 3).trans rfl, (Zd BK101.out 4).trans rfl, (Zd BK101.out 5).trans rfl, (Zd BK101.out 6).trans rfl⟩ (fun hHeld => ?_)
     clear hK K
     refine n1 45 ?_
     refine o1 HT_ 6 (some 46) (fun K hK => ?_)
     have hcv41 := own_string (P := Try.prog) Try.underlying28 Try.underlying5 Try.underlying9 (Kd.own_of_R HO112.out)
     refine value_ (w1 := ?_) (v := ?_) (by rfl) rfl ?_ ?_
     rotate_left 2
     ·go_simp
      constructor
      ·rfl
      rfl
     clear hcv41
     refine hK.out _ _ ⟨own_string (P := Try.prog) Try.underlying28 Try.underlying5 Try.underlying9 (Kd.own_of_R HO_5.out), (Zd BK101.out 0).trans rfl, (Zd BK101.out 1).trans rfl, (Zd BK101.out 2).trans rfl, (Zd BK101.out 3).trans rfl, (Zd BK101.out 4).trans rfl, (Zd BK101.out 5).trans rfl, (Zd BK101.out 6).trans rfl⟩ (fun hHeld => ?_)
     clear hK K
     refine n1 46 ?_
     refine p1 HT_ 7 47 ?_
     refine p1 HT_ 8 48 ?_
     refine p1 HT_ 9 49 ?_
     refine p1 HT_ 10 50 ?_
     refine p1 HT_ 11 51 ?_
     refine p1 HT_ 12 52 ?_
     refine o1 HT_ 13 (some 53) (fun K hK => ?_)
     refine goes_ Try.func33 (by kernel_rfl) rfl #[] (by rfl) rfl rfl (by (try simp only [Zdb, Zeb, Zfb]); first | done | rfl | (simp only [Zha, Zga]; rfl)) ?_
     with_reducible refine (psalterylaw18_knows.calls  true _ A36.out).mono ?_
     rintro e w43 ⟨rfl, hb⟩
     refine ⟨_, rfl, ?_⟩
     have n0_ := Zma (Zza (rq HO_5.out) hb)
     have n1_ := Zma (Zza (rq HO112.out) hb)
     have n2_ := Zma (Zab (g := gb101) (o := .cells #[.int .i64 a1_0, .int .i64 a1_1, .bool a1_2, .bool a1_3, .bool a1_4, .bool a1_5, .slice A1_6 l1_6.length c1_6] 43 (0, 0)) (kq BK101.out) hb)
     have n3_ := Zma (Zoa bq hb)
     clear HO_5 HO112 BK101 HB; have HO_5 := n0_; have HO112 := n1_; have BK101 := n2_; have HB := n3_; clear n0_ n1_ n2_ n3_
     (try clear hb)
     refine hK.out _ _ ⟨own_string (P := Try.prog) Try.underlying28 Try.underlying5 Try.underlying9 (Kd.own_of_R HO_5.out), (Zd BK101.out 0).trans rfl, (Zd BK101.out 1).trans rfl, (Zd BK101.out 2).trans rfl, (Zd BK101.out 3).trans rfl, (Zd BK101.out 4).trans rfl, (Zd BK101.out 5).trans rfl, (Zd BK101.out 6).trans rfl⟩ (fun hHeld => ?_)
     clear hK K
     refine n1 53 ?_
     refine p1 HT_ 14 54 ?_
     refine p1 HT_ 15 4 ?_
     refine done_ (done_of HT_.out (by kernel_rfl)) ?_
     try go_wp2
     go_ret
     exact ⟨by first | rfl | (simp [errW_none, errW_some] <;> rfl) | (simp [*, errW_none, errW_some] <;> rfl), bq⟩
end Go.Proofs.Yteoclecadpapfaa.G
