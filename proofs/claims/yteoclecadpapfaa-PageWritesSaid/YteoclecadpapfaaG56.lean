/- What a call of psaltery/psalteryref18.low, psaltery/psalteryref18.bytes, psaltery/psalteryref18.sum, psaltery/psalteryref18.Write does, told by a plain Lean function of its arguments. Written by a program for this claim. -/
import Derived.Test.YteoclecadpapfaaG0
import Derived.Test.YteoclecadpapfaaG29
import Derived.Test.YteoclecadpapfaaG55
import Derived.Test.YteoclecadpapfaaM4
import Derived.Test.YteoclecadpapfaaM13
import Derived.Test.YteoclecadpapfaaM24
namespace Go.Proofs.Yteoclecadpapfaa.G
open Go.RowKit Go.Proofs.YteoclecadpapfaaW.PrintWords Go.Proofs.YteoclecadpapfaaW.PrintLast Go.Proofs.YteoclecadpapfaaW.PrintMore
attribute [local go_sem] max2_int min2_int max_two min_two max_three min_three max_four min_four
set_option linter.unusedVariables false
set_option linter.unusedSimpArgs false

/-! ### psalteryref18_low_raw: function 80 -/
def psalteryref18_low_raw.f : Nat → Int → Int → Option (List Int)
 | 0, _, _ => none
 | k + 1, a0, a1 => if a1 = 0 then (some ([] : List Int)) else ((some (([(Int.tmod a0 256) % 256] : List Int) : List Int)).bind fun y101 => ((psalteryref18_low_raw.f k (wrap64 (Int.tdiv a0 256)) (wrap64 (a1 - 1))).bind fun t104 => (if y101.length + t104.length < 140737488355328 then (some (y101 ++ t104)) else (none))))
set_option maxHeartbeats 8000000 in
set_option maxRecDepth 100000 in
theorem psalteryref18_low_raw.calls (k : Nat) : ∀ (a0 : Int) (a1 : Int) (r : List Int) (w : World) (h : psalteryref18_low_raw.f k a0 a1 = some r),
  Calls Try.prog 80 #[.int .i64 a0, .int .i64 a1] w fun e w' => ∃ v0_ : Value, e = .returned (v0_) ∧ Kd.R (Kd.int .u8) 5 w' w.heap.size (fun _ => True) v0_ r ∧ Below w.heap.size w w' := by
 induction k using Nat.strongRecOn with
 | _ k ih =>
 intro a0 a1 r w h
 cases k with
 | zero => exact absurd h (by simp [psalteryref18_low_raw.f])
 | succ k =>
 simp only [psalteryref18_low_raw.f] at h
 have HB := Zma (Below.refl w.heap.size w)
 have H : (if a1 = 0 then (some ([] : List Int)) else ((some (([(Int.tmod a0 256) % 256] : List Int) : List Int)).bind fun y101 => ((psalteryref18_low_raw.f k (wrap64 (Int.tdiv a0 256)) (wrap64 (a1 - 1))).bind fun t104 => (if y101.length + t104.length < 140737488355328 then (some (y101 ++ t104)) else (none))))) = some r := h
 clear h
 by_cases c3 : a1 = 0
 ·rw [if_pos c3] at H
  have c3b0 : (a1 == 0) = true := beq_iff_eq.mpr c3
  have c3b1 : (a1 != 0) = false := bne_eq_false_iff_eq.mpr c3
  clear c3
  obtain rfl := Zgb H
  go_enter Try.func80, Try.ntmps80
  go_wp2
  go_ret
  exact ⟨_, by first | rfl | (simp [errW_none, errW_some] <;> rfl) | (simp [*, errW_none, errW_some] <;> rfl), by first | exact Kd.R_nil _ _ _ _ _ | exact Kd.N_nil _ _ _ _ _ | exact Kd.V_nil _ _ _ _ _ | exact Kd.Q_nil _ _ _ _ _ | exact Kd.S_nil _ _ _ _ _, bq⟩
 rw [if_neg c3] at H
 have c3b0 : (a1 == 0) = false := beq_eq_false_iff_ne.mpr c3
 have c3b1 : (a1 != 0) = true := bne_iff_ne.mpr c3
 obtain ⟨y101, hy101⟩ : ∃ y_ : List Int, y_ = (([(Int.tmod a0 256) % 256] : List Int)) := ⟨_, rfl⟩
 replace H : ((psalteryref18_low_raw.f k (wrap64 (Int.tdiv a0 256)) (wrap64 (a1 - 1))).bind fun t104 => (if y101.length + t104.length < 140737488355328 then (some (y101 ++ t104)) else (none))) = some r := by first | (rw [hy101]; with_reducible exact H) | (have H2_ := (Zsa _ _).symm.trans H; rw [hy101]; with_reducible exact H2_) | (have H2_ := (Zsa _ _).symm.trans H; with_reducible exact H2_) | with_reducible exact H | (rw [hy101]; exact H) | exact H
 have Ny101 := Zma hy101
 clear hy101
 replace H := Option.bind_eq_some_iff.mp H
 obtain ⟨t104, A40, H⟩ := H
 replace H : (if y101.length + t104.length < 140737488355328 then (some (y101 ++ t104)) else (none)) = some r := H
 have A4 := Zma A40
 clear A40
 by_cases c5 : y101.length + t104.length < 140737488355328
 rotate_left
 ·rw [if_neg c5] at H
  exact absurd H (by simp)
 rw [if_pos c5] at H
 have LMc5 := Zma c5
 clear c5
 obtain ⟨y107, hy107⟩ : ∃ y_ : List Int, y_ = (y101 ++ t104) := ⟨_, rfl⟩
 replace H : (some y107) = some r := by first | (rw [hy107]; with_reducible exact H) | (have H2_ := (Zsa _ _).symm.trans H; rw [hy107]; with_reducible exact H2_) | (have H2_ := (Zsa _ _).symm.trans H; with_reducible exact H2_) | with_reducible exact H | (rw [hy107]; exact H) | exact H
 have Ny107 := Zma hy107
 clear hy107
 obtain rfl := Zgb H
 go_enter Try.func80, Try.ntmps80
 go_wp2_with (first | ((with_reducible refine gate_dst (N := 10) rfl ?_); refine Kd.R_lit (Kd.int .u8) _ 5 ?hg (N := 10) ?hd (xs := ([(Int.tmod a0 256) % 256] : List Int)) (inner := [.int .u8 ((Int.tmod a0 256) % 256)]) (ok := fun _ => True) (okp := fun _ => True) ?hr ?hp (fun _ hk => hk) trivial (Below.refl _ _) (Zra _) (by simp) ?_; (case hd => rfl); (case hg => rfl); (case hr => first | (go_simp; done) | (go_simp; rfl)); (case hp => exact (Reps.one (show Kd.M (Kd.int .u8) _ _ _ ((Int.tmod a0 256) % 256) [.int .u8 ((Int.tmod a0 256) % 256)] from rfl) (Reps.none _ _))); intro v102 w6 ho7 hb hg_ hnew_; clear hg_ hnew_; (first | rw [← Ny101.out] at ho7 | (simp only [Int.reduceToNat] at ho7; rw [← Ny101.out] at ho7)); have n0_ := Zma (Zxa ho7 (Zfa bq)); have n1_ := Zma (Zoa bq hb); clear HB; have HO103 := n0_; have HB := n1_; clear n0_ n1_ hb ho7) | ((with_reducible refine gate_callee (f := 80) rfl ?_); refine goesL_ (some 15) rfl rfl Try.func80 (by kernel_rfl) rfl #[.int .i64 (wrap64 (Int.tdiv a0 256)), .int .i64 (wrap64 (a1 - 1))] rfl (by (try simp only [Zdb, Zeb, Zfb]); first | done | rfl | (simp only [Zha, Zga]; rfl)) ?_; (with_reducible refine (ih k (by omega) (wrap64 (Int.tdiv a0 256)) (wrap64 (a1 - 1)) t104 _ A4.out).mono ?_); rintro e w8 ⟨v105, rfl, ho0, hb⟩; refine ⟨_, rfl, ?_⟩; have n0_ := Zma (Kd.R_elder' (rq HO103.out) (Kd.R_base ho0) hb); have n1_ := Zma (Zxa (Kd.R_new' ho0 (Kd.R_lt (rq HO103.out))) (Zfa bq)); have n2_ := Zma (Zoa bq hb); clear HO103 HB; have HO103 := n0_; have HO106 := n1_; have HB := n2_; clear n0_ n1_ n2_; (try clear hb); (try clear hb2); (try clear hk); (try clear hi); (try clear ho0); obtain ⟨Ao10, co10, eo10⟩ := Kd.R_slice HO106.out; subst eo10) | ((with_reducible refine gate_builtin (b := .append) (xs := #[.tmp 10, .tmp 15]) rfl ?_); at_builtin; refine Kd.R_append_rows (Kd.int .u8) (w0 := w) w.heap.size rfl (.tmp 10) (.tmp 15) 28 5 (.int .u8 0) 1 rfl Try.underlying28 info5 rfl (by decide) (by omega) v102 y101 t104 _ _ _ (fun k_ => some k_ ≠ (.slice Ao10 t104.length co10 : Value).ownBlock) (fun _ => False) rfl rfl ?aO ?aR (fun _ _ h => h) (fun _ h => h.elim) ?aF ?aB ?aS ?aL ?_; (case aR => exact cq ((Zkb HO106.out).2.2)); (case aB => exact bq); (case aF => exact (fun k_ hk => Kd.fresh' (Kd.R_lt (rq HO106.out)) k_ hk)); (case aO => exact (by refine rq ?_; exact Kd.R_mono HO103.out (fun _ hk => hk.2))); (case aS => exact (Zfa bq)); (case aL => have := LMc5.out; omega); intro v108 w9 ho hb hg hat; rw [← Ny107.out] at ho; have n0_ := Zma (Kd.R_after (ok := (fun _ => True)) (rq HO106.out) hg hat); have n1_ := Zma (hb); have n2_ := Zma (ho); clear HO106 HB HO103; have HO106 := n0_; have HB := n1_; have HO109 := n2_; clear n0_ n1_ n2_ ho hb hg hat))
 go_ret
 exact ⟨_, by first | rfl | (simp [errW_none, errW_some] <;> rfl) | (simp [*, errW_none, errW_some] <;> rfl), by refine rq ?_; exact Kd.R_mono HO109.out (fun _ hk => trivial), bq⟩

def psalteryref18_low.f (v n : Int) : Option (List Int) := if 0 ≤ v ∧ v ≤ 9223372036854775807 ∧ 0 ≤ n ∧ n ≤ 8 then some (lowI v n.toNat) else none
theorem psalteryref18_low.of {v n : Int} {r : List Int} (h : psalteryref18_low.f v n = some r) : ∃ k, psalteryref18_low_raw.f k v n = some r := by
  unfold psalteryref18_low.f at h
  split at h
  case isFalse => cases h
  case isTrue h0 =>
    obtain ⟨h1, h2, h3, h4⟩ := h0
    injection h with h
    subst h
    obtain ⟨m, rfl⟩ := Int.eq_ofNat_of_zero_le h3
    rw [Int.toNat_natCast]
    refine ⟨m + 1, ?_⟩
    induction m generalizing v with
    | zero => rfl
    | succ m ih =>
      have e0 : ¬ ((m + 1 : Nat) : Int) = 0 := by omega
      have e1 : wrap64 (((m + 1 : Nat) : Int) - 1) = (m : Int) := by rw [wrap64_of (by omega) (by omega)]; omega
      have e2 : wrap64 (Int.tdiv v 256) = v / 256 := by rw [Int.tdiv_eq_ediv_of_nonneg h1, wrap64_of (by omega) (by omega)]
      have e3 : Int.tmod v 256 % 256 = v % 256 := by rw [Int.tmod_eq_emod_of_nonneg h1]; omega
      have hi := ih (v := v / 256) (by omega) (by omega) (by omega) (by omega)
      rw [psalteryref18_low_raw.f, if_neg e0, Zsa, e1, e2, e3, hi, Zsa, if_pos ?_]
      · rfl
      · rw [lowI_length]
        simp only [List.length_cons, List.length_nil]
        omega
theorem psalteryref18_low.calls (a0 : Int) (a1 : Int) (r : List Int) (w : World) (h : psalteryref18_low.f a0 a1 = some r) :
  Calls Try.prog 80 #[.int .i64 a0, .int .i64 a1] w fun e w' => ∃ v0_ : Value, e = .returned (v0_) ∧ Kd.R (Kd.int .u8) 5 w' w.heap.size (fun _ => True) v0_ r ∧ Below w.heap.size w w' := by
  obtain ⟨k, hk⟩ := psalteryref18_low.of h
  exact psalteryref18_low_raw.calls k a0 a1 r w hk

/-! ### psalteryref18_bytes_raw: function 76 -/
mutual
def psalteryref18_bytes_raw.j0 : Nat → Int → Int → Int → Int → Bool → Bool → Bool → Bool → List (List Int) → Option (List Int)
 | 0, _, _, _, _, _, _, _, _, _ => none
 | k + 1, x1, x5, x102000, x102001, x102002, x102003, x102004, x102005, x102006 => if x102002 = true then (psalteryref18_bytes_raw.j1 k x1 (wrap64 (x5 + 2)) x102000 x102001 x102002 x102003 x102004 x102005 x102006) else (psalteryref18_bytes_raw.j1 k x1 x5 x102000 x102001 x102002 x102003 x102004 x102005 x102006)
def psalteryref18_bytes_raw.j1 : Nat → Int → Int → Int → Int → Bool → Bool → Bool → Bool → List (List Int) → Option (List Int)
 | 0, _, _, _, _, _, _, _, _, _ => none
 | k + 1, x1, x5, x102000, x102001, x102002, x102003, x102004, x102005, x102006 => if x102003 = true then (psalteryref18_bytes_raw.j2 k x1 (wrap64 (x5 + 4)) x102000 x102001 x102002 x102003 x102004 x102005 x102006) else (psalteryref18_bytes_raw.j2 k x1 x5 x102000 x102001 x102002 x102003 x102004 x102005 x102006)
def psalteryref18_bytes_raw.j2 : Nat → Int → Int → Int → Int → Bool → Bool → Bool → Bool → List (List Int) → Option (List Int)
 | 0, _, _, _, _, _, _, _, _, _ => none
 | k + 1, x1, x5, x102000, x102001, x102002, x102003, x102004, x102005, x102006 => (some (([80, 83, 76, 84, (x5) % 256] : List Int) : List Int)).bind fun y102 => ((psalteryref18_low.f x102001 8).bind fun t105 => (if y102.length + t105.length < 140737488355328 then ((some (y102 ++ t105 : List Int)).bind fun y108 => ((psalteryref18_low.f x102000 4).bind fun t111 => (if y108.length + t111.length < 140737488355328 then ((some (y108 ++ t111 : List Int)).bind fun y114 => ((psalteryref18_low.f x1 4).bind fun t117 => (if y114.length + t117.length < 140737488355328 then ((some (y114 ++ t117 : List Int)).bind fun y120 => ((psalteryref18_Laces.f x102000 x102001 x102002 x102003 x102004 x102005 x102006).bind fun bt123 => (if y120.length < 140737488355328 then ((some (y120 ++ [((bt123.1.length : Int)) % 256] : List Int)).bind fun y127 => (if y127.length + bt123.1.length < 140737488355328 then (psalteryref18_bytes_raw.l0 k (y127 ++ bt123.1) 0 x102000 x102001 x102002 x102003 x102004 x102005 x102006) else (none))) else (none)))) else (none)))) else (none)))) else (none)))
def psalteryref18_bytes_raw.l0 : Nat → List Int → Int → Int → Int → Bool → Bool → Bool → Bool → List (List Int) → Option (List Int)
 | 0, _, _, _, _, _, _, _, _, _ => none
 | k + 1, x6, x9, x102000, x102001, x102002, x102003, x102004, x102005, x102006 => if x9 < (x102006.length : Int) then (if 0 ≤ x9 then (if x6.length + (rd_L3 x102006 x9).length < 140737488355328 then (psalteryref18_bytes_raw.l0 k (x6 ++ (rd_L3 x102006 x9)) (wrap64 (x9 + 1)) x102000 x102001 x102002 x102003 x102004 x102005 x102006) else (none)) else (none)) else (some x6)
end
def psalteryref18_bytes_raw.f (k : Nat) (a0_0 : Int) (a0_1 : Int) (a0_2 : Bool) (a0_3 : Bool) (a0_4 : Bool) (a0_5 : Bool) (l0_6 : List (List Int)) (a1 : Int) : Option (List Int) := if a0_4 = true then (psalteryref18_bytes_raw.j0 k a1 (0 + 1) a0_0 a0_1 a0_2 a0_3 a0_4 a0_5 l0_6) else (psalteryref18_bytes_raw.j0 k a1 0 a0_0 a0_1 a0_2 a0_3 a0_4 a0_5 l0_6)
set_option maxHeartbeats 8000000 in
set_option maxRecDepth 100000 in
theorem psalteryref18_bytes_raw.calls (k : Nat) (a0_0 : Int) (a0_1 : Int) (a0_2 : Bool) (a0_3 : Bool) (a0_4 : Bool) (a0_5 : Bool) (A0_6 : Option Addr) (c0_6 : Nat) (l0_6 : List (List Int)) (a1 : Int) (r : List Int) (w : World) (hr0_6 : Kd.C (Kd.slice 5 (Kd.int .u8)) w A0_6 l0_6.length l0_6) (hc0_6 : l0_6.length ≤ c0_6) (h : psalteryref18_bytes_raw.f k a0_0 a0_1 a0_2 a0_3 a0_4 a0_5 l0_6 a1 = some r) :
  Calls Try.prog 76 #[.agg #[.int .i64 a0_0, .int .i64 a0_1, .bool a0_2, .bool a0_3, .bool a0_4, .bool a0_5, .slice A0_6 l0_6.length c0_6], .int .i64 a1] w fun e w' => ∃ v0_ : Value, e = .returned (v0_) ∧ Kd.R (Kd.int .u8) 5 w' w.heap.size (fun _ => True) v0_ r ∧ Below w.heap.size w w' := by
 have hu50 := Try.underlying50
 have HR0_6 := Zma hr0_6
 have HC0_6 := Zma hc0_6
 clear hr0_6 hc0_6
 have HB := Zma (Below.refl w.heap.size w)
 have H : (if a0_4 = true then (psalteryref18_bytes_raw.j0 k a1 (0 + 1) a0_0 a0_1 a0_2 a0_3 a0_4 a0_5 l0_6) else (psalteryref18_bytes_raw.j0 k a1 0 a0_0 a0_1 a0_2 a0_3 a0_4 a0_5 l0_6)) = some r := h
 clear h
 have HC3 := Zma H
 clear H
 go_enter Try.func76, Try.ntmps76
 go_upto_if 11 with (first | ((with_reducible refine gate_dst (N := 2) rfl ?_); refine box_event ?hg (N := 2) ?hd (cs := #[.int .i64 a0_0, .int .i64 a0_1, .bool a0_2, .bool a0_3, .bool a0_4, .bool a0_5, .slice A0_6 l0_6.length c0_6]) (t := 50) ?hr ?_; (case hd => rfl); (case hg => rfl); (case hr => first | (go_simp; done) | (go_simp; rfl)); intro gb101 hg w4 hbox hb; have n0_ := Zma (Zoa bq hb); have n1_ := Zma (hbox); have n2_ := Zma ((by rw [hg]; exact (Zfa bq) : w.heap.size ≤ gb101)); have n3_ := Zma ((by rw [hg]; exact (Zfa bq) : w.heap.size ≤ gb101)); clear HB; have HB := n0_; have BK101 := n1_; have GW101 := n2_; have GE101 := n3_; clear n0_ n1_ n2_ n3_ hb hbox hg; obtain ⟨hcz5_0, hcz5_1, hcz5_2, hcz5_3, hcz5_4, hcz5_5, hcz5_6, hfz5_0, hfz5_1, hfz5_2, hfz5_3, hfz5_4, hfz5_5, hfz5_6⟩ := blk7 BK101.out))
 (try simp only [Act.put, Za, Zb, Zc])
 go_cut [5] (fun v5 wc => ∃ (kq : Nat) (x5_2 : Int), v5 = .int .i64 x5_2 ∧ Aside0 (psalteryref18_bytes_raw.j0 kq a1 x5_2 a0_0 a0_1 a0_2 a0_3 a0_4 a0_5 l0_6 = some r) ∧ Aside0 (kq ≤ k) ∧ Aside0 (wc.heap[gb101]? = some (.cells #[.int .i64 a0_0, .int .i64 a0_1, .bool a0_2, .bool a0_3, .bool a0_4, .bool a0_5, (.slice A0_6 l0_6.length c0_6)] 50 (0, 0))) ∧ Aside0 (Below w.heap.size w wc))
 case first =>
  have H := HC3.out
  clear HC3
  by_cases c6 : a0_4 = true
  ·subst c6
   have H1 : (psalteryref18_bytes_raw.j0 k a1 (0 + 1) a0_0 a0_1 a0_2 a0_3 true a0_5 l0_6) = some r := by rw [if_pos rfl] at H; exact H
   clear H
   have H := H1
   clear H1
   have H' := Zma H
   clear H
   go_wp2
   go_meet
   case rel => exact ⟨_, (0 + 1), (by first | rfl | (simp; done) | (simp [*]; done)), H', ⟨by first | omega | exact Zra _⟩, ⟨kq BK101.out⟩, ⟨bq⟩⟩
  replace c6 := Bool.eq_false_iff.mpr c6
  subst c6
  have H1 : (psalteryref18_bytes_raw.j0 k a1 0 a0_0 a0_1 a0_2 a0_3 false a0_5 l0_6) = some r := by rw [if_neg (show ¬ (false = true) by decide)] at H; exact H
  clear H
  have H := H1
  clear H1
  have H' := Zma H
  clear H
  go_wp2
  go_meet
  case rel => exact ⟨_, (0), (by first | rfl | (simp; done) | (simp [*]; done)), H', ⟨by first | omega | exact Zra _⟩, ⟨kq BK101.out⟩, ⟨bq⟩⟩
 case rest =>
  clear HC3
  try clear p2
  try clear c6
  try clear hcz5_0
  try clear hcz5_1
  try clear hcz5_2
  try clear hcz5_3
  try clear hcz5_4
  try clear hcz5_5
  try clear hcz5_6
  try clear hfz5_0
  try clear hfz5_1
  try clear hfz5_2
  try clear hfz5_3
  try clear hfz5_4
  try clear hfz5_5
  try clear hfz5_6
  obtain ⟨kq, x5_2, rfl, HA, HJ2, BK101, HB⟩ := hcut
  cases kq with
  | zero => exact absurd HA.out (by simp [psalteryref18_bytes_raw.j0])
  | succ kj2 =>
   have H := HA.out
   clear HA
   simp only [psalteryref18_bytes_raw.j0] at H
   have HC7 := Zma H
   clear H
   obtain ⟨hcz8_0, hcz8_1, hcz8_2, hcz8_3, hcz8_4, hcz8_5, hcz8_6, hfz8_0, hfz8_1, hfz8_2, hfz8_3, hfz8_4, hfz8_5, hfz8_6⟩ := blk7 BK101.out
   go_upto_if 15 with (fail)
   go_cut [5] (fun v5 wc => ∃ (kq : Nat) (x5_6 : Int), v5 = .int .i64 x5_6 ∧ Aside0 (psalteryref18_bytes_raw.j1 kq a1 x5_6 a0_0 a0_1 a0_2 a0_3 a0_4 a0_5 l0_6 = some r) ∧ Aside0 (kq ≤ kj2) ∧ Aside0 (wc.heap[gb101]? = some (.cells #[.int .i64 a0_0, .int .i64 a0_1, .bool a0_2, .bool a0_3, .bool a0_4, .bool a0_5, (.slice A0_6 l0_6.length c0_6)] 50 (0, 0))) ∧ Aside0 (Below w.heap.size w wc))
   case first =>
    have H := HC7.out
    clear HC7
    by_cases c9 : a0_2 = true
    ·subst c9
     have H1 : (psalteryref18_bytes_raw.j1 kj2 a1 (wrap64 (x5_2 + 2)) a0_0 a0_1 true a0_3 a0_4 a0_5 l0_6) = some r := by rw [if_pos rfl] at H; exact H
     clear H
     have H := H1
     clear H1
     have H' := Zma H
     clear H
     go_wp2
     go_meet
     case rel => exact ⟨_, (wrap64 (x5_2 + 2)), (by first | rfl | (simp; done) | (simp [*]; done)), H', ⟨by have := HJ2.out; first | omega | exact Zra _⟩, ⟨kq BK101.out⟩, ⟨bq⟩⟩
    replace c9 := Bool.eq_false_iff.mpr c9
    subst c9
    have H1 : (psalteryref18_bytes_raw.j1 kj2 a1 x5_2 a0_0 a0_1 false a0_3 a0_4 a0_5 l0_6) = some r := by rw [if_neg (show ¬ (false = true) by decide)] at H; exact H
    clear H
    have H := H1
    clear H1
    have H' := Zma H
    clear H
    go_wp2
    go_meet
    case rel => exact ⟨_, (x5_2), (by first | rfl | (simp; done) | (simp [*]; done)), H', ⟨by have := HJ2.out; first | omega | exact Zra _⟩, ⟨kq BK101.out⟩, ⟨bq⟩⟩
   case rest =>
    clear HC7
    try clear p2
    try clear c6
    try clear p6
    try clear c7
    try clear c9
    try clear hcz5_0
    try clear hcz5_1
    try clear hcz5_2
    try clear hcz5_3
    try clear hcz5_4
    try clear hcz5_5
    try clear hcz5_6
    try clear hcz8_0
    try clear hcz8_1
    try clear hcz8_2
    try clear hcz8_3
    try clear hcz8_4
    try clear hcz8_5
    try clear hcz8_6
    try clear hfz5_0
    try clear hfz5_1
    try clear hfz5_2
    try clear hfz5_3
    try clear hfz5_4
    try clear hfz5_5
    try clear hfz5_6
    try clear hfz8_0
    try clear hfz8_1
    try clear hfz8_2
    try clear hfz8_3
    try clear hfz8_4
    try clear hfz8_5
    try clear hfz8_6
    try clear p2
    obtain ⟨kq, x5_6, rfl, HA, HJ6, BK101, HB⟩ := hcut
    cases kq with
    | zero => exact absurd HA.out (by simp [psalteryref18_bytes_raw.j1])
    | succ kj6 =>
     have H := HA.out
     clear HA
     simp only [psalteryref18_bytes_raw.j1] at H
     have HC10 := Zma H
     clear H
     obtain ⟨hcz11_0, hcz11_1, hcz11_2, hcz11_3, hcz11_4, hcz11_5, hcz11_6, hfz11_0, hfz11_1, hfz11_2, hfz11_3, hfz11_4, hfz11_5, hfz11_6⟩ := blk7 BK101.out
     go_upto_if 19 with (fail)
     go_cut [5] (fun v5 wc => ∃ (kq : Nat) (x5_9 : Int), v5 = .int .i64 x5_9 ∧ Aside0 (psalteryref18_bytes_raw.j2 kq a1 x5_9 a0_0 a0_1 a0_2 a0_3 a0_4 a0_5 l0_6 = some r) ∧ Aside0 (kq ≤ kj6) ∧ Aside0 (wc.heap[gb101]? = some (.cells #[.int .i64 a0_0, .int .i64 a0_1, .bool a0_2, .bool a0_3, .bool a0_4, .bool a0_5, (.slice A0_6 l0_6.length c0_6)] 50 (0, 0))) ∧ Aside0 (Below w.heap.size w wc))
     case first =>
      have H := HC10.out
      clear HC10
      by_cases c12 : a0_3 = true
      ·subst c12
       have H1 : (psalteryref18_bytes_raw.j2 kj6 a1 (wrap64 (x5_6 + 4)) a0_0 a0_1 a0_2 true a0_4 a0_5 l0_6) = some r := by rw [if_pos rfl] at H; exact H
       clear H
       have H := H1
       clear H1
       have H' := Zma H
       clear H
       go_wp2
       go_meet
       case rel => exact ⟨_, (wrap64 (x5_6 + 4)), (by first | rfl | (simp; done) | (simp [*]; done)), H', ⟨by have := HJ2.out; have := HJ6.out; first | omega | exact Zra _⟩, ⟨kq BK101.out⟩, ⟨bq⟩⟩
      replace c12 := Bool.eq_false_iff.mpr c12
      subst c12
      have H1 : (psalteryref18_bytes_raw.j2 kj6 a1 x5_6 a0_0 a0_1 a0_2 false a0_4 a0_5 l0_6) = some r := by rw [if_neg (show ¬ (false = true) by decide)] at H; exact H
      clear H
      have H := H1
      clear H1
      have H' := Zma H
      clear H
      go_wp2
      go_meet
      case rel => exact ⟨_, (x5_6), (by first | rfl | (simp; done) | (simp [*]; done)), H', ⟨by have := HJ2.out; have := HJ6.out; first | omega | exact Zra _⟩, ⟨kq BK101.out⟩, ⟨bq⟩⟩
     case rest =>
      clear HC10
      try clear c1
      try clear p2
      try clear c6
      try clear p6
      try clear c7
      try clear c9
      try clear c12
      try clear hcz11_0
      try clear hcz11_1
      try clear hcz11_2
      try clear hcz11_3
      try clear hcz11_4
      try clear hcz11_5
      try clear hcz11_6
      try clear hcz5_0
      try clear hcz5_1
      try clear hcz5_2
      try clear hcz5_3
      try clear hcz5_4
      try clear hcz5_5
      try clear hcz5_6
      try clear hcz8_0
      try clear hcz8_1
      try clear hcz8_2
      try clear hcz8_3
      try clear hcz8_4
      try clear hcz8_5
      try clear hcz8_6
      try clear hfz11_0
      try clear hfz11_1
      try clear hfz11_2
      try clear hfz11_3
      try clear hfz11_4
      try clear hfz11_5
      try clear hfz11_6
      try clear hfz5_0
      try clear hfz5_1
      try clear hfz5_2
      try clear hfz5_3
      try clear hfz5_4
      try clear hfz5_5
      try clear hfz5_6
      try clear hfz8_0
      try clear hfz8_1
      try clear hfz8_2
      try clear hfz8_3
      try clear hfz8_4
      try clear hfz8_5
      try clear hfz8_6
      try clear p2
      try clear p6
      obtain ⟨kq, x5_9, rfl, HA, HJ9, BK101, HB⟩ := hcut
      cases kq with
      | zero => exact absurd HA.out (by simp [psalteryref18_bytes_raw.j2])
      | succ kj9 =>
       have H := HA.out
       clear HA
       simp only [psalteryref18_bytes_raw.j2] at H
       obtain ⟨y102, hy102⟩ : ∃ y_ : List Int, y_ = (([80, 83, 76, 84, (x5_9) % 256] : List Int)) := ⟨_, rfl⟩
       replace H : ((psalteryref18_low.f a0_1 8).bind fun t105 => (if y102.length + t105.length < 140737488355328 then ((some (y102 ++ t105 : List Int)).bind fun y108 => ((psalteryref18_low.f a0_0 4).bind fun t111 => (if y108.length + t111.length < 140737488355328 then ((some (y108 ++ t111 : List Int)).bind fun y114 => ((psalteryref18_low.f a1 4).bind fun t117 => (if y114.length + t117.length < 140737488355328 then ((some (y114 ++ t117 : List Int)).bind fun y120 => ((psalteryref18_Laces.f a0_0 a0_1 a0_2 a0_3 a0_4 a0_5 l0_6).bind fun bt123 => (if y120.length < 140737488355328 then ((some (y120 ++ [((bt123.1.length : Int)) % 256] : List Int)).bind fun y127 => (if y127.length + bt123.1.length < 140737488355328 then (psalteryref18_bytes_raw.l0 kj9 (y127 ++ bt123.1) 0 a0_0 a0_1 a0_2 a0_3 a0_4 a0_5 l0_6) else (none))) else (none)))) else (none)))) else (none)))) else (none))) = some r := by first | (rw [hy102]; with_reducible exact H) | (have H2_ := (Zsa _ _).symm.trans H; rw [hy102]; with_reducible exact H2_) | (have H2_ := (Zsa _ _).symm.trans H; with_reducible exact H2_) | with_reducible exact H | (rw [hy102]; exact H) | exact H
       have Ny102 := Zma hy102
       clear hy102
       replace H := Option.bind_eq_some_iff.mp H
       obtain ⟨t105, A130, H⟩ := H
       replace H : (if y102.length + t105.length < 140737488355328 then ((some (y102 ++ t105 : List Int)).bind fun y108 => ((psalteryref18_low.f a0_0 4).bind fun t111 => (if y108.length + t111.length < 140737488355328 then ((some (y108 ++ t111 : List Int)).bind fun y114 => ((psalteryref18_low.f a1 4).bind fun t117 => (if y114.length + t117.length < 140737488355328 then ((some (y114 ++ t117 : List Int)).bind fun y120 => ((psalteryref18_Laces.f a0_0 a0_1 a0_2 a0_3 a0_4 a0_5 l0_6).bind fun bt123 => (if y120.length < 140737488355328 then ((some (y120 ++ [((bt123.1.length : Int)) % 256] : List Int)).bind fun y127 => (if y127.length + bt123.1.length < 140737488355328 then (psalteryref18_bytes_raw.l0 kj9 (y127 ++ bt123.1) 0 a0_0 a0_1 a0_2 a0_3 a0_4 a0_5 l0_6) else (none))) else (none)))) else (none)))) else (none)))) else (none)) = some r := H
       have A13 := Zma A130
       clear A130
       by_cases c14 : y102.length + t105.length < 140737488355328
       rotate_left
       ·rw [if_neg c14] at H
        exact absurd H (by simp)
       rw [if_pos c14] at H
       have LMc14 := Zma c14
       clear c14
       obtain ⟨y108, hy108⟩ : ∃ y_ : List Int, y_ = (y102 ++ t105) := ⟨_, rfl⟩
       replace H : ((psalteryref18_low.f a0_0 4).bind fun t111 => (if y108.length + t111.length < 140737488355328 then ((some (y108 ++ t111 : List Int)).bind fun y114 => ((psalteryref18_low.f a1 4).bind fun t117 => (if y114.length + t117.length < 140737488355328 then ((some (y114 ++ t117 : List Int)).bind fun y120 => ((psalteryref18_Laces.f a0_0 a0_1 a0_2 a0_3 a0_4 a0_5 l0_6).bind fun bt123 => (if y120.length < 140737488355328 then ((some (y120 ++ [((bt123.1.length : Int)) % 256] : List Int)).bind fun y127 => (if y127.length + bt123.1.length < 140737488355328 then (psalteryref18_bytes_raw.l0 kj9 (y127 ++ bt123.1) 0 a0_0 a0_1 a0_2 a0_3 a0_4 a0_5 l0_6) else (none))) else (none)))) else (none)))) else (none))) = some r := by first | (rw [hy108]; with_reducible exact H) | (have H2_ := (Zsa _ _).symm.trans H; rw [hy108]; with_reducible exact H2_) | (have H2_ := (Zsa _ _).symm.trans H; with_reducible exact H2_) | with_reducible exact H | (rw [hy108]; exact H) | exact H
       have Ny108 := Zma hy108
       clear hy108
       replace H := Option.bind_eq_some_iff.mp H
       obtain ⟨t111, A150, H⟩ := H
       replace H : (if y108.length + t111.length < 140737488355328 then ((some (y108 ++ t111 : List Int)).bind fun y114 => ((psalteryref18_low.f a1 4).bind fun t117 => (if y114.length + t117.length < 140737488355328 then ((some (y114 ++ t117 : List Int)).bind fun y120 => ((psalteryref18_Laces.f a0_0 a0_1 a0_2 a0_3 a0_4 a0_5 l0_6).bind fun bt123 => (if y120.length < 140737488355328 then ((some (y120 ++ [((bt123.1.length : Int)) % 256] : List Int)).bind fun y127 => (if y127.length + bt123.1.length < 140737488355328 then (psalteryref18_bytes_raw.l0 kj9 (y127 ++ bt123.1) 0 a0_0 a0_1 a0_2 a0_3 a0_4 a0_5 l0_6) else (none))) else (none)))) else (none)))) else (none)) = some r := H
       have A15 := Zma A150
       clear A150
       by_cases c16 : y108.length + t111.length < 140737488355328
       rotate_left
       ·rw [if_neg c16] at H
        exact absurd H (by simp)
       rw [if_pos c16] at H
       have LMc16 := Zma c16
       clear c16
       obtain ⟨y114, hy114⟩ : ∃ y_ : List Int, y_ = (y108 ++ t111) := ⟨_, rfl⟩
       replace H : ((psalteryref18_low.f a1 4).bind fun t117 => (if y114.length + t117.length < 140737488355328 then ((some (y114 ++ t117 : List Int)).bind fun y120 => ((psalteryref18_Laces.f a0_0 a0_1 a0_2 a0_3 a0_4 a0_5 l0_6).bind fun bt123 => (if y120.length < 140737488355328 then ((some (y120 ++ [((bt123.1.length : Int)) % 256] : List Int)).bind fun y127 => (if y127.length + bt123.1.length < 140737488355328 then (psalteryref18_bytes_raw.l0 kj9 (y127 ++ bt123.1) 0 a0_0 a0_1 a0_2 a0_3 a0_4 a0_5 l0_6) else (none))) else (none)))) else (none))) = some r := by first | (rw [hy114]; with_reducible exact H) | (have H2_ := (Zsa _ _).symm.trans H; rw [hy114]; with_reducible exact H2_) | (have H2_ := (Zsa _ _).symm.trans H; with_reducible exact H2_) | with_reducible exact H | (rw [hy114]; exact H) | exact H
       have Ny114 := Zma hy114
       clear hy114
       replace H := Option.bind_eq_some_iff.mp H
       obtain ⟨t117, A170, H⟩ := H
       replace H : (if y114.length + t117.length < 140737488355328 then ((some (y114 ++ t117 : List Int)).bind fun y120 => ((psalteryref18_Laces.f a0_0 a0_1 a0_2 a0_3 a0_4 a0_5 l0_6).bind fun bt123 => (if y120.length < 140737488355328 then ((some (y120 ++ [((bt123.1.length : Int)) % 256] : List Int)).bind fun y127 => (if y127.length + bt123.1.length < 140737488355328 then (psalteryref18_bytes_raw.l0 kj9 (y127 ++ bt123.1) 0 a0_0 a0_1 a0_2 a0_3 a0_4 a0_5 l0_6) else (none))) else (none)))) else (none)) = some r := H
       have A17 := Zma A170
       clear A170
       by_cases c18 : y114.length + t117.length < 140737488355328
       rotate_left
       ·rw [if_neg c18] at H
        exact absurd H (by simp)
       rw [if_pos c18] at H
       have LMc18 := Zma c18
       clear c18
       obtain ⟨y120, hy120⟩ : ∃ y_ : List Int, y_ = (y114 ++ t117) := ⟨_, rfl⟩
       replace H : ((psalteryref18_Laces.f a0_0 a0_1 a0_2 a0_3 a0_4 a0_5 l0_6).bind fun bt123 => (if y120.length < 140737488355328 then ((some (y120 ++ [((bt123.1.length : Int)) % 256] : List Int)).bind fun y127 => (if y127.length + bt123.1.length < 140737488355328 then (psalteryref18_bytes_raw.l0 kj9 (y127 ++ bt123.1) 0 a0_0 a0_1 a0_2 a0_3 a0_4 a0_5 l0_6) else (none))) else (none))) = some r := by first | (rw [hy120]; with_reducible exact H) | (have H2_ := (Zsa _ _).symm.trans H; rw [hy120]; with_reducible exact H2_) | (have H2_ := (Zsa _ _).symm.trans H; with_reducible exact H2_) | with_reducible exact H | (rw [hy120]; exact H) | exact H
       have Ny120 := Zma hy120
       clear hy120
       replace H := Option.bind_eq_some_iff.mp H
       obtain ⟨⟨t123, t126⟩, A190, H⟩ := H
       replace H : (if y120.length < 140737488355328 then ((some (y120 ++ [((t123.length : Int)) % 256] : List Int)).bind fun y127 => (if y127.length + t123.length < 140737488355328 then (psalteryref18_bytes_raw.l0 kj9 (y127 ++ t123) 0 a0_0 a0_1 a0_2 a0_3 a0_4 a0_5 l0_6) else (none))) else (none)) = some r := H
       have A19 := Zma A190
       clear A190
       by_cases c20 : y120.length < 140737488355328
       rotate_left
       ·rw [if_neg c20] at H
        exact absurd H (by simp)
       rw [if_pos c20] at H
       have LMc20 := Zma c20
       clear c20
       obtain ⟨y127, hy127⟩ : ∃ y_ : List Int, y_ = (y120 ++ [((t123.length : Int)) % 256]) := ⟨_, rfl⟩
       replace H : (if y127.length + t123.length < 140737488355328 then (psalteryref18_bytes_raw.l0 kj9 (y127 ++ t123) 0 a0_0 a0_1 a0_2 a0_3 a0_4 a0_5 l0_6) else (none)) = some r := by first | (rw [hy127]; with_reducible exact H) | (have H2_ := (Zsa _ _).symm.trans H; rw [hy127]; with_reducible exact H2_) | (have H2_ := (Zsa _ _).symm.trans H; with_reducible exact H2_) | with_reducible exact H | (rw [hy127]; exact H) | exact H
       have Ny127 := Zma hy127
       clear hy127
       by_cases c21 : y127.length + t123.length < 140737488355328
       rotate_left
       ·rw [if_neg c21] at H
        exact absurd H (by simp)
       rw [if_pos c21] at H
       have LMc21 := Zma c21
       clear c21
       obtain ⟨y130, hy130⟩ : ∃ y_ : List Int, y_ = (y127 ++ t123) := ⟨_, rfl⟩
       replace H : (psalteryref18_bytes_raw.l0 kj9 y130 0 a0_0 a0_1 a0_2 a0_3 a0_4 a0_5 l0_6) = some r := by first | (rw [hy130]; with_reducible exact H) | (have H2_ := (Zsa _ _).symm.trans H; rw [hy130]; with_reducible exact H2_) | (have H2_ := (Zsa _ _).symm.trans H; with_reducible exact H2_) | with_reducible exact H | (rw [hy130]; exact H) | exact H
       have Ny130 := Zma hy130
       clear hy130
       have H' := Zma H
       clear H
       go_wp2_with (first | ((with_reducible refine gate_dst (N := 24) rfl ?_); refine Kd.R_lit (Kd.int .u8) _ 5 ?hg (N := 24) ?hd (xs := ([80, 83, 76, 84, (x5_9) % 256] : List Int)) (inner := [.int .u8 80, .int .u8 83, .int .u8 76, .int .u8 84, .int .u8 ((x5_9) % 256)]) (ok := fun _ => True) (okp := fun _ => True) ?hr ?hp (fun _ hk => hk) trivial (Below.refl _ _) (Zra _) (by simp) ?_; (case hd => rfl); (case hg => rfl); (case hr => first | (go_simp; done) | (go_simp; rfl)); (case hp => exact (Reps.one (show Kd.M (Kd.int .u8) _ _ _ 80 [.int .u8 80] from rfl) (Reps.one (show Kd.M (Kd.int .u8) _ _ _ 83 [.int .u8 83] from rfl) (Reps.one (show Kd.M (Kd.int .u8) _ _ _ 76 [.int .u8 76] from rfl) (Reps.one (show Kd.M (Kd.int .u8) _ _ _ 84 [.int .u8 84] from rfl) (Reps.one (show Kd.M (Kd.int .u8) _ _ _ ((x5_9) % 256) [.int .u8 ((x5_9) % 256)] from rfl) (Reps.none _ _))))))); intro v103 w22 ho23 hb hg_ hnew_; clear hg_ hnew_; (first | rw [← Ny102.out] at ho23 | (simp only [Int.reduceToNat] at ho23; rw [← Ny102.out] at ho23)); have n0_ := Zma (Zxa ho23 (Zfa bq)); have n1_ := Zma (Zab (g := gb101) (o := .cells #[.int .i64 a0_0, .int .i64 a0_1, .bool a0_2, .bool a0_3, .bool a0_4, .bool a0_5, .slice A0_6 l0_6.length c0_6] 50 (0, 0)) (kq BK101.out) hb); have n2_ := Zma (Zoa bq hb); clear BK101 HB; have HO104 := n0_; have BK101 := n1_; have HB := n2_; clear n0_ n1_ n2_ hb ho23; obtain ⟨hcz24_0, hcz24_1, hcz24_2, hcz24_3, hcz24_4, hcz24_5, hcz24_6, hfz24_0, hfz24_1, hfz24_2, hfz24_3, hfz24_4, hfz24_5, hfz24_6⟩ := blk7 BK101.out) | ((with_reducible refine gate_callee (f := 80) rfl ?_); refine goesL_ (some 28) rfl rfl Try.func80 (by kernel_rfl) rfl #[.int .i64 a0_1, .int .i64 8] rfl (by (try simp only [Zdb, Zeb, Zfb]); first | done | rfl | (simp only [Zha, Zga]; rfl)) ?_; (with_reducible refine (psalteryref18_low.calls a0_1 8 t105 _ A13.out).mono ?_); rintro e w25 ⟨v106, rfl, ho0, hb⟩; refine ⟨_, rfl, ?_⟩; have n0_ := Zma (Kd.R_elder' (rq HO104.out) (Kd.R_base ho0) hb); have n1_ := Zma (Zxa (Kd.R_new' ho0 (Kd.R_lt (rq HO104.out))) (Zfa bq)); have n2_ := Zma (Zab (g := gb101) (o := .cells #[.int .i64 a0_0, .int .i64 a0_1, .bool a0_2, .bool a0_3, .bool a0_4, .bool a0_5, .slice A0_6 l0_6.length c0_6] 50 (0, 0)) (kq BK101.out) hb); have n3_ := Zma (Zoa bq hb); clear HO104 BK101 HB; have HO104 := n0_; have HO107 := n1_; have BK101 := n2_; have HB := n3_; clear n0_ n1_ n2_ n3_; (try clear hb); (try clear hb2); (try clear hk); (try clear hi); (try clear ho0); obtain ⟨Ao27, co27, eo27⟩ := Kd.R_slice HO107.out; subst eo27) | ((with_reducible refine gate_builtin (b := .append) (xs := #[.tmp 25, .tmp 28]) rfl ?_); at_builtin; refine Kd.R_append_rows (Kd.int .u8) (w0 := w) w.heap.size rfl (.tmp 25) (.tmp 28) 28 5 (.int .u8 0) 1 rfl Try.underlying28 info5 rfl (by decide) (by omega) v103 y102 t105 _ _ _ (fun k_ => some k_ ≠ (.slice Ao27 t105.length co27 : Value).ownBlock) (fun _ => False) rfl rfl ?aO ?aR (fun _ _ h => h) (fun _ h => h.elim) ?aF ?aB ?aS ?aL ?_; (case aR => exact cq ((Zkb HO107.out).2.2)); (case aB => exact bq); (case aF => exact (fun k_ hk => Kd.fresh' (Kd.R_lt (rq HO107.out)) k_ hk)); (case aO => exact (by refine rq ?_; exact Kd.R_mono HO104.out (fun _ hk => hk.2))); (case aS => exact (Zfa bq)); (case aL => have := LMc14.out; omega); intro v109 w26 ho hb hg hat; rw [← Ny108.out] at ho; have n0_ := Zma (blk_grown (g := gb101) (o := .cells #[.int .i64 a0_0, .int .i64 a0_1, .bool a0_2, .bool a0_3, .bool a0_4, .bool a0_5, .slice A0_6 l0_6.length c0_6] 50 (0, 0)) (kq BK101.out) hg (Kd.R_ne HO104.out BK101.out (by decide))); have n1_ := Zma (Kd.R_after (ok := (fun _ => True)) (rq HO107.out) hg hat); have n2_ := Zma (hb); have n3_ := Zma (ho); clear BK101 HO107 HB HO104; have BK101 := n0_; have HO107 := n1_; have HB := n2_; have HO110 := n3_; clear n0_ n1_ n2_ n3_ ho hb hg hat; obtain ⟨hcz28_0, hcz28_1, hcz28_2, hcz28_3, hcz28_4, hcz28_5, hcz28_6, hfz28_0, hfz28_1, hfz28_2, hfz28_3, hfz28_4, hfz28_5, hfz28_6⟩ := blk7 BK101.out) | ((with_reducible refine gate_callee (f := 80) rfl ?_); refine goesL_ (some 33) rfl rfl Try.func80 (by kernel_rfl) rfl #[.int .i64 a0_0, .int .i64 4] rfl (by (try simp only [Zdb, Zeb, Zfb]); first | done | rfl | (simp only [Zha, Zga]; rfl)) ?_; (with_reducible refine (psalteryref18_low.calls a0_0 4 t111 _ A15.out).mono ?_); rintro e w29 ⟨v112, rfl, ho0, hb⟩; refine ⟨_, rfl, ?_⟩; have n0_ := Zma (Kd.R_elder' (rq HO107.out) (Kd.R_base ho0) hb); have n1_ := Zma (Kd.R_elder' (rq HO110.out) (Kd.R_base ho0) hb); have n2_ := Zma (Zxa (Kd.R_new' (Kd.R_new' ho0 (Kd.R_lt (rq HO107.out))) (Kd.R_lt (rq HO110.out))) (Zfa bq)); have n3_ := Zma (Zab (g := gb101) (o := .cells #[.int .i64 a0_0, .int .i64 a0_1, .bool a0_2, .bool a0_3, .bool a0_4, .bool a0_5, .slice A0_6 l0_6.length c0_6] 50 (0, 0)) (kq BK101.out) hb); have n4_ := Zma (Zoa bq hb); clear HO107 HO110 BK101 HB; have HO107 := n0_; have HO110 := n1_; have HO113 := n2_; have BK101 := n3_; have HB := n4_; clear n0_ n1_ n2_ n3_ n4_; (try clear hb); (try clear hb2); (try clear hk); (try clear hi); (try clear ho0); obtain ⟨Ao31, co31, eo31⟩ := Kd.R_slice HO113.out; subst eo31) | ((with_reducible refine gate_builtin (b := .append) (xs := #[.tmp 30, .tmp 33]) rfl ?_); at_builtin; refine Kd.R_append_rows (Kd.int .u8) (w0 := w) w.heap.size rfl (.tmp 30) (.tmp 33) 28 5 (.int .u8 0) 1 rfl Try.underlying28 info5 rfl (by decide) (by omega) v109 y108 t111 _ _ _ (fun k_ => some k_ ≠ (.slice Ao27 t105.length co27 : Value).ownBlock ∧ some k_ ≠ (.slice Ao31 t111.length co31 : Value).ownBlock) (fun _ => False) rfl rfl ?aO ?aR (fun _ _ h => h) (fun _ h => h.elim) ?aF ?aB ?aS ?aL ?_; (case aR => exact cq ((Zkb HO113.out).2.2)); (case aB => exact bq); (case aF => exact (fun k_ hk => ⟨Kd.fresh' (Kd.R_lt (rq HO107.out)) k_ hk, Kd.fresh' (Kd.R_lt (rq HO113.out)) k_ hk⟩)); (case aO => exact (rq HO110.out)); (case aS => exact (Zfa bq)); (case aL => have := LMc16.out; omega); intro v115 w30 ho hb hg hat; rw [← Ny114.out] at ho; have n0_ := Zma (blk_grown (g := gb101) (o := .cells #[.int .i64 a0_0, .int .i64 a0_1, .bool a0_2, .bool a0_3, .bool a0_4, .bool a0_5, .slice A0_6 l0_6.length c0_6] 50 (0, 0)) (kq BK101.out) hg (Kd.R_ne HO110.out BK101.out (by decide))); have n1_ := Zma (Kd.R_after (ok := (fun k_ => some k_ ≠ (.slice Ao31 t111.length co31 : Value).ownBlock)) (by refine rq ?_; exact Kd.R_mono HO107.out (fun _ hk => ⟨hk.2, hk.1.2⟩)) hg hat); have n2_ := Zma (Kd.R_after (ok := (fun k_ => some k_ ≠ (.slice Ao27 t105.length co27 : Value).ownBlock)) (by refine rq ?_; exact Kd.R_mono HO113.out (fun _ hk => ⟨hk.1.2, hk.2⟩)) hg hat); have n3_ := Zma (hb); have n4_ := Zma (ho); clear BK101 HO107 HO113 HB HO110; have BK101 := n0_; have HO107 := n1_; have HO113 := n2_; have HB := n3_; have HO116 := n4_; clear n0_ n1_ n2_ n3_ n4_ ho hb hg hat) | ((with_reducible refine gate_callee (f := 80) rfl ?_); refine goesL_ (some 37) rfl rfl Try.func80 (by kernel_rfl) rfl #[.int .i64 a1, .int .i64 4] rfl (by (try simp only [Zdb, Zeb, Zfb]); first | done | rfl | (simp only [Zha, Zga]; rfl)) ?_; (with_reducible refine (psalteryref18_low.calls a1 4 t117 _ A17.out).mono ?_); rintro e w32 ⟨v118, rfl, ho0, hb⟩; refine ⟨_, rfl, ?_⟩; have n0_ := Zma (Kd.R_elder' (rq HO107.out) (Kd.R_base ho0) hb); have n1_ := Zma (Kd.R_elder' (rq HO113.out) (Kd.R_base ho0) hb); have n2_ := Zma (Kd.R_elder' (rq HO116.out) (Kd.R_base ho0) hb); have n3_ := Zma (Zxa (Kd.R_new' (Kd.R_new' (Kd.R_new' ho0 (Kd.R_lt (rq HO107.out))) (Kd.R_lt (rq HO113.out))) (Kd.R_lt (rq HO116.out))) (Zfa bq)); have n4_ := Zma (Zab (g := gb101) (o := .cells #[.int .i64 a0_0, .int .i64 a0_1, .bool a0_2, .bool a0_3, .bool a0_4, .bool a0_5, .slice A0_6 l0_6.length c0_6] 50 (0, 0)) (kq BK101.out) hb); have n5_ := Zma (Zoa bq hb); clear HO107 HO113 HO116 BK101 HB; have HO107 := n0_; have HO113 := n1_; have HO116 := n2_; have HO119 := n3_; have BK101 := n4_; have HB := n5_; clear n0_ n1_ n2_ n3_ n4_ n5_; (try clear hb); (try clear hb2); (try clear hk); (try clear hi); (try clear ho0); obtain ⟨Ao34, co34, eo34⟩ := Kd.R_slice HO119.out; subst eo34) | ((with_reducible refine gate_builtin (b := .append) (xs := #[.tmp 35, .tmp 37]) rfl ?_); at_builtin; refine Kd.R_append_rows (Kd.int .u8) (w0 := w) w.heap.size rfl (.tmp 35) (.tmp 37) 28 5 (.int .u8 0) 1 rfl Try.underlying28 info5 rfl (by decide) (by omega) v115 y114 t117 _ _ _ (fun k_ => some k_ ≠ (.slice Ao27 t105.length co27 : Value).ownBlock ∧ some k_ ≠ (.slice Ao31 t111.length co31 : Value).ownBlock ∧ some k_ ≠ (.slice Ao34 t117.length co34 : Value).ownBlock) (fun _ => False) rfl rfl ?aO ?aR (fun _ _ h => h) (fun _ h => h.elim) ?aF ?aB ?aS ?aL ?_; (case aR => exact cq ((Zkb HO119.out).2.2)); (case aB => exact bq); (case aF => exact (fun k_ hk => ⟨Kd.fresh' (Kd.R_lt (rq HO107.out)) k_ hk, Kd.fresh' (Kd.R_lt (rq HO113.out)) k_ hk, Kd.fresh' (Kd.R_lt (rq HO119.out)) k_ hk⟩)); (case aO => exact (by refine rq ?_; exact Kd.R_mono HO116.out (fun _ hk => ⟨hk.1.1, ⟨hk.1.2, hk.2⟩⟩))); (case aS => exact (Zfa bq)); (case aL => have := LMc18.out; omega); intro v121 w33 ho hb hg hat; rw [← Ny120.out] at ho; have n0_ := Zma (blk_grown (g := gb101) (o := .cells #[.int .i64 a0_0, .int .i64 a0_1, .bool a0_2, .bool a0_3, .bool a0_4, .bool a0_5, .slice A0_6 l0_6.length c0_6] 50 (0, 0)) (kq BK101.out) hg (Kd.R_ne HO116.out BK101.out (by decide))); have n1_ := Zma (Kd.R_after (ok := (fun k_ => some k_ ≠ (.slice Ao31 t111.length co31 : Value).ownBlock ∧ some k_ ≠ (.slice Ao34 t117.length co34 : Value).ownBlock)) (by refine rq ?_; exact Kd.R_mono HO107.out (fun _ hk => ⟨⟨hk.1.1, hk.2⟩, hk.1.2⟩)) hg hat); have n2_ := Zma (Kd.R_after (ok := (fun k_ => some k_ ≠ (.slice Ao27 t105.length co27 : Value).ownBlock ∧ some k_ ≠ (.slice Ao34 t117.length co34 : Value).ownBlock)) (by refine rq ?_; exact Kd.R_mono HO113.out (fun _ hk => ⟨⟨hk.1.1, hk.2⟩, hk.1.2⟩)) hg hat); have n3_ := Zma (Kd.R_after (ok := (fun k_ => some k_ ≠ (.slice Ao27 t105.length co27 : Value).ownBlock ∧ some k_ ≠ (.slice Ao31 t111.length co31 : Value).ownBlock)) (by refine rq ?_; exact Kd.R_mono HO119.out (fun _ hk => ⟨⟨hk.1.1.2, hk.1.2⟩, hk.2⟩)) hg hat); have n4_ := Zma (hb); have n5_ := Zma (ho); clear BK101 HO107 HO113 HO119 HB HO116; have BK101 := n0_; have HO107 := n1_; have HO113 := n2_; have HO119 := n3_; have HB := n4_; have HO122 := n5_; clear n0_ n1_ n2_ n3_ n4_ n5_ ho hb hg hat; obtain ⟨hcz35_0, hcz35_1, hcz35_2, hcz35_3, hcz35_4, hcz35_5, hcz35_6, hfz35_0, hfz35_1, hfz35_2, hfz35_3, hfz35_4, hfz35_5, hfz35_6⟩ := blk7 BK101.out) | ((with_reducible refine gate_callee (f := 75) rfl ?_); refine goesL_ (some 41) rfl rfl Try.func75 (by kernel_rfl) rfl #[.agg #[.int .i64 a0_0, .int .i64 a0_1, .bool a0_2, .bool a0_3, .bool a0_4, .bool a0_5, .slice A0_6 l0_6.length c0_6]] rfl (by (try simp only [Zdb, Zeb, Zfb]); first | done | rfl | (simp only [Zha, Zga]; rfl)) ?_; (with_reducible refine (psalteryref18_Laces.calls a0_0 a0_1 a0_2 a0_3 a0_4 a0_5 _ _ l0_6 t123 t126 _ ?side1 ?side2 A19.out).mono ?_); (case side1 => exact cq ((Kd.C_below HR0_6.out HB.out))); (case side2 => exact HC0_6.out); rintro e w36 ⟨v124, rfl, ho0, hb⟩; refine ⟨_, rfl, ?_⟩; have n0_ := Zma (Kd.R_elder' (rq HO107.out) (Kd.R_base ho0) hb); have n1_ := Zma (Kd.R_elder' (rq HO113.out) (Kd.R_base ho0) hb); have n2_ := Zma (Kd.R_elder' (rq HO119.out) (Kd.R_base ho0) hb); have n3_ := Zma (Kd.R_elder' (rq HO122.out) (Kd.R_base ho0) hb); have n4_ := Zma (Zxa (Kd.R_new' (Kd.R_new' (Kd.R_new' (Kd.R_new' ho0 (Kd.R_lt (rq HO107.out))) (Kd.R_lt (rq HO113.out))) (Kd.R_lt (rq HO119.out))) (Kd.R_lt (rq HO122.out))) (Zfa bq)); have n5_ := Zma (Zab (g := gb101) (o := .cells #[.int .i64 a0_0, .int .i64 a0_1, .bool a0_2, .bool a0_3, .bool a0_4, .bool a0_5, .slice A0_6 l0_6.length c0_6] 50 (0, 0)) (kq BK101.out) hb); have n6_ := Zma (Zoa bq hb); clear HO107 HO113 HO119 HO122 BK101 HB; have HO107 := n0_; have HO113 := n1_; have HO119 := n2_; have HO122 := n3_; have HO125 := n4_; have BK101 := n5_; have HB := n6_; clear n0_ n1_ n2_ n3_ n4_ n5_ n6_; (try clear hb); (try clear hb2); (try clear hk); (try clear hi); (try clear ho0); obtain ⟨Ao37, co37, eo37⟩ := Kd.R_slice HO125.out; subst eo37) | ((with_reducible refine gate_builtin (b := .append) (xs := #[.tmp 44, .tmp 48]) rfl ?_); at_builtin; refine Kd.R_append (Kd.int .u8) (w0 := w) w.heap.size rfl (.tmp 44) (.tmp 48) 28 5 (.int .u8 0) 1 rfl Try.underlying28 info5 rfl (by decide) (by omega) v121 y120 (((t123.length : Int)) % 256) [.int .u8 (((t123.length : Int)) % 256)] (fun k_ => some k_ ≠ (.slice Ao27 t105.length co27 : Value).ownBlock ∧ some k_ ≠ (.slice Ao31 t111.length co31 : Value).ownBlock ∧ some k_ ≠ (.slice Ao34 t117.length co34 : Value).ownBlock ∧ some k_ ≠ (.slice Ao37 t123.length co37 : Value).ownBlock) (fun _ => False) rfl rfl ?aP (fun _ hk => hk.elim) ?aF ?aO ?aB ?aS ?aL ?_; (case aP => exact rfl); (case aB => exact bq); (case aF => exact (fun k_ hk => ⟨Kd.fresh' (Kd.R_lt (rq HO107.out)) k_ hk, Kd.fresh' (Kd.R_lt (rq HO113.out)) k_ hk, Kd.fresh' (Kd.R_lt (rq HO119.out)) k_ hk, Kd.fresh' (Kd.R_lt (rq HO125.out)) k_ hk⟩)); (case aO => exact (by refine rq ?_; exact Kd.R_mono HO122.out (fun _ hk => ⟨hk.1.1, ⟨hk.1.2.1, ⟨hk.1.2.2, hk.2⟩⟩⟩))); (case aS => exact (Zfa bq)); (case aL => have := LMc20.out; omega); intro v128 w38 ho hb hg hat; rw [← Ny127.out] at ho; have n0_ := Zma (blk_grown (g := gb101) (o := .cells #[.int .i64 a0_0, .int .i64 a0_1, .bool a0_2, .bool a0_3, .bool a0_4, .bool a0_5, .slice A0_6 l0_6.length c0_6] 50 (0, 0)) (kq BK101.out) hg (Kd.R_ne HO122.out BK101.out (by decide))); have n1_ := Zma (Kd.R_after (ok := (fun k_ => some k_ ≠ (.slice Ao31 t111.length co31 : Value).ownBlock ∧ some k_ ≠ (.slice Ao34 t117.length co34 : Value).ownBlock ∧ some k_ ≠ (.slice Ao37 t123.length co37 : Value).ownBlock)) (by refine rq ?_; exact Kd.R_mono HO107.out (fun _ hk => ⟨⟨hk.1.1.1, ⟨hk.1.1.2, hk.2⟩⟩, hk.1.2⟩)) hg hat); have n2_ := Zma (Kd.R_after (ok := (fun k_ => some k_ ≠ (.slice Ao27 t105.length co27 : Value).ownBlock ∧ some k_ ≠ (.slice Ao34 t117.length co34 : Value).ownBlock ∧ some k_ ≠ (.slice Ao37 t123.length co37 : Value).ownBlock)) (by refine rq ?_; exact Kd.R_mono HO113.out (fun _ hk => ⟨⟨hk.1.1.1, ⟨hk.1.1.2, hk.2⟩⟩, hk.1.2⟩)) hg hat); have n3_ := Zma (Kd.R_after (ok := (fun k_ => some k_ ≠ (.slice Ao27 t105.length co27 : Value).ownBlock ∧ some k_ ≠ (.slice Ao31 t111.length co31 : Value).ownBlock ∧ some k_ ≠ (.slice Ao37 t123.length co37 : Value).ownBlock)) (by refine rq ?_; exact Kd.R_mono HO119.out (fun _ hk => ⟨⟨hk.1.1.1, ⟨hk.1.1.2, hk.2⟩⟩, hk.1.2⟩)) hg hat); have n4_ := Zma (Kd.R_after (ok := (fun k_ => some k_ ≠ (.slice Ao27 t105.length co27 : Value).ownBlock ∧ some k_ ≠ (.slice Ao31 t111.length co31 : Value).ownBlock ∧ some k_ ≠ (.slice Ao34 t117.length co34 : Value).ownBlock)) (by refine rq ?_; exact Kd.R_mono HO125.out (fun _ hk => ⟨⟨hk.1.1.1.2, ⟨hk.1.1.2, hk.1.2⟩⟩, hk.2⟩)) hg hat); have n5_ := Zma (hb); have n6_ := Zma (ho); clear BK101 HO107 HO113 HO119 HO125 HB HO122; have BK101 := n0_; have HO107 := n1_; have HO113 := n2_; have HO119 := n3_; have HO125 := n4_; have HB := n5_; have HO129 := n6_; clear n0_ n1_ n2_ n3_ n4_ n5_ n6_ ho hb hg hat) | ((with_reducible refine gate_builtin (b := .append) (xs := #[.tmp 50, .tmp 51]) rfl ?_); at_builtin; refine Kd.R_append_rows (Kd.int .u8) (w0 := w) w.heap.size rfl (.tmp 50) (.tmp 51) 28 5 (.int .u8 0) 1 rfl Try.underlying28 info5 rfl (by decide) (by omega) v128 y127 t123 _ _ _ (fun k_ => some k_ ≠ (.slice Ao27 t105.length co27 : Value).ownBlock ∧ some k_ ≠ (.slice Ao31 t111.length co31 : Value).ownBlock ∧ some k_ ≠ (.slice Ao34 t117.length co34 : Value).ownBlock ∧ some k_ ≠ (.slice Ao37 t123.length co37 : Value).ownBlock) (fun _ => False) rfl rfl ?aO ?aR (fun _ _ h => h) (fun _ h => h.elim) ?aF ?aB ?aS ?aL ?_; (case aR => exact cq ((Zkb HO125.out).2.2)); (case aB => exact bq); (case aF => exact (fun k_ hk => ⟨Kd.fresh' (Kd.R_lt (rq HO107.out)) k_ hk, Kd.fresh' (Kd.R_lt (rq HO113.out)) k_ hk, Kd.fresh' (Kd.R_lt (rq HO119.out)) k_ hk, Kd.fresh' (Kd.R_lt (rq HO125.out)) k_ hk⟩)); (case aO => exact (rq HO129.out)); (case aS => exact (Zfa bq)); (case aL => have := LMc21.out; omega); intro v131 w39 ho hb hg hat; rw [← Ny130.out] at ho; have n0_ := Zma (blk_grown (g := gb101) (o := .cells #[.int .i64 a0_0, .int .i64 a0_1, .bool a0_2, .bool a0_3, .bool a0_4, .bool a0_5, .slice A0_6 l0_6.length c0_6] 50 (0, 0)) (kq BK101.out) hg (Kd.R_ne HO129.out BK101.out (by decide))); have n1_ := Zma (Kd.R_after (ok := (fun k_ => some k_ ≠ (.slice Ao31 t111.length co31 : Value).ownBlock ∧ some k_ ≠ (.slice Ao34 t117.length co34 : Value).ownBlock ∧ some k_ ≠ (.slice Ao37 t123.length co37 : Value).ownBlock)) (rq HO107.out) hg hat); have n2_ := Zma (Kd.R_after (ok := (fun k_ => some k_ ≠ (.slice Ao27 t105.length co27 : Value).ownBlock ∧ some k_ ≠ (.slice Ao34 t117.length co34 : Value).ownBlock ∧ some k_ ≠ (.slice Ao37 t123.length co37 : Value).ownBlock)) (rq HO113.out) hg hat); have n3_ := Zma (Kd.R_after (ok := (fun k_ => some k_ ≠ (.slice Ao27 t105.length co27 : Value).ownBlock ∧ some k_ ≠ (.slice Ao31 t111.length co31 : Value).ownBlock ∧ some k_ ≠ (.slice Ao37 t123.length co37 : Value).ownBlock)) (rq HO119.out) hg hat); have n4_ := Zma (Kd.R_after (ok := (fun k_ => some k_ ≠ (.slice Ao27 t105.length co27 : Value).ownBlock ∧ some k_ ≠ (.slice Ao31 t111.length co31 : Value).ownBlock ∧ some k_ ≠ (.slice Ao34 t117.length co34 : Value).ownBlock)) (rq HO125.out) hg hat); have n5_ := Zma (hb); have n6_ := Zma (ho); clear BK101 HO107 HO113 HO119 HO125 HB HO129; have BK101 := n0_; have HO107 := n1_; have HO113 := n2_; have HO119 := n3_; have HO125 := n4_; have HB := n5_; have HO132 := n6_; clear n0_ n1_ n2_ n3_ n4_ n5_ n6_ ho hb hg hat))
       go_loopg [6, 9] kj9 (fun kq v6 v9 w' => ∃ (x6_4 : List Int) (x9_4 : Int), v9 = .int .i64 x9_4 ∧ Aside0 (psalteryref18_bytes_raw.l0 kq x6_4 x9_4 a0_0 a0_1 a0_2 a0_3 a0_4 a0_5 l0_6 = some r) ∧ Aside0 (kq ≤ kj9) ∧ Aside0 (Kd.R (Kd.int .u8) 5 w' w.heap.size (fun _ => True) v6 x6_4) ∧ Aside0 (w'.heap[gb101]? = some (.cells #[.int .i64 a0_0, .int .i64 a0_1, .bool a0_2, .bool a0_3, .bool a0_4, .bool a0_5, (.slice A0_6 l0_6.length c0_6)] 50 (0, 0))) ∧ Aside0 (Below w.heap.size w w'))
       case atStart => exact ⟨(y130), (0), (by first | rfl | (simp; done) | (simp [*]; done)), H', ⟨Zra _⟩, ⟨by refine rq ?_; exact Kd.R_mono HO132.out (fun _ hk => trivial)⟩, ⟨kq BK101.out⟩, ⟨bq⟩⟩
       case round =>
        clear H'
        try clear c1
        try clear c2
        try clear p2
        try clear c6
        try clear p6
        try clear c7
        try clear c8
        try clear c9
        try clear c12
        try clear c14
        try clear c16
        try clear c18
        try clear c20
        try clear c21
        try clear hcz11_0
        try clear hcz11_1
        try clear hcz11_2
        try clear hcz11_3
        try clear hcz11_4
        try clear hcz11_5
        try clear hcz11_6
        try clear hcz24_0
        try clear hcz24_1
        try clear hcz24_2
        try clear hcz24_3
        try clear hcz24_4
        try clear hcz24_5
        try clear hcz24_6
        try clear hcz28_0
        try clear hcz28_1
        try clear hcz28_2
        try clear hcz28_3
        try clear hcz28_4
        try clear hcz28_5
        try clear hcz28_6
        try clear hcz35_0
        try clear hcz35_1
        try clear hcz35_2
        try clear hcz35_3
        try clear hcz35_4
        try clear hcz35_5
        try clear hcz35_6
        try clear hcz5_0
        try clear hcz5_1
        try clear hcz5_2
        try clear hcz5_3
        try clear hcz5_4
        try clear hcz5_5
        try clear hcz5_6
        try clear hcz8_0
        try clear hcz8_1
        try clear hcz8_2
        try clear hcz8_3
        try clear hcz8_4
        try clear hcz8_5
        try clear hcz8_6
        try clear hfz11_0
        try clear hfz11_1
        try clear hfz11_2
        try clear hfz11_3
        try clear hfz11_4
        try clear hfz11_5
        try clear hfz11_6
        try clear hfz24_0
        try clear hfz24_1
        try clear hfz24_2
        try clear hfz24_3
        try clear hfz24_4
        try clear hfz24_5
        try clear hfz24_6
        try clear hfz28_0
        try clear hfz28_1
        try clear hfz28_2
        try clear hfz28_3
        try clear hfz28_4
        try clear hfz28_5
        try clear hfz28_6
        try clear hfz35_0
        try clear hfz35_1
        try clear hfz35_2
        try clear hfz35_3
        try clear hfz35_4
        try clear hfz35_5
        try clear hfz35_6
        try clear hfz5_0
        try clear hfz5_1
        try clear hfz5_2
        try clear hfz5_3
        try clear hfz5_4
        try clear hfz5_5
        try clear hfz5_6
        try clear hfz8_0
        try clear hfz8_1
        try clear hfz8_2
        try clear hfz8_3
        try clear hfz8_4
        try clear hfz8_5
        try clear hfz8_6
        try clear p2
        try clear p6
        obtain ⟨x6_4, x9_4, rfl, HA, HK4, HO_6, BK101, HB⟩ := hrel
        cases gk with
        | zero => exact absurd HA.out (by simp [psalteryref18_bytes_raw.l0])
        | succ k4 =>
         have H := HA.out
         clear HA
         simp only [psalteryref18_bytes_raw.l0] at H
         by_cases c40 : x9_4 < (l0_6.length : Int)
         ·rw [if_pos c40] at H
          have c40b0 : decide (x9_4 < (l0_6.length : Int)) = true := Zn c40
          clear c40
          by_cases c41 : 0 ≤ x9_4
          rotate_left
          ·rw [if_neg c41] at H
           exact absurd H (by simp)
          rw [if_pos c41] at H
          have c41b0 : decide (0 ≤ x9_4) = true := Zn c41
          clear c41
          by_cases c42 : x6_4.length + (rd_L3 l0_6 x9_4).length < 140737488355328
          rotate_left
          ·rw [if_neg c42] at H
           exact absurd H (by simp)
          rw [if_pos c42] at H
          have LMc42 := Zma c42
          clear c42
          obtain ⟨y134, hy134⟩ : ∃ y_ : List Int, y_ = (x6_4 ++ (rd_L3 l0_6 x9_4)) := ⟨_, rfl⟩
          replace H : (psalteryref18_bytes_raw.l0 k4 y134 (wrap64 (x9_4 + 1)) a0_0 a0_1 a0_2 a0_3 a0_4 a0_5 l0_6) = some r := by first | (rw [hy134]; with_reducible exact H) | (have H2_ := (Zsa _ _).symm.trans H; rw [hy134]; with_reducible exact H2_) | (have H2_ := (Zsa _ _).symm.trans H; with_reducible exact H2_) | with_reducible exact H | (rw [hy134]; exact H) | exact H
          have Ny134 := Zma hy134
          clear hy134
          have H' := Zma H
          clear H
          obtain ⟨hcz43_0, hcz43_1, hcz43_2, hcz43_3, hcz43_4, hcz43_5, hcz43_6, hfz43_0, hfz43_1, hfz43_2, hfz43_3, hfz43_4, hfz43_5, hfz43_6⟩ := blk7 BK101.out
          have p133 : 0 ≤ (x9_4 : Int) := Zg (by first | (with_reducible assumption) | assumption)
          have q133 : x9_4 < (l0_6.length : Int) := Zg (by first | (with_reducible assumption) | assumption)
          obtain ⟨ad133, A133_0, c133_0, e133, hx133_0, hl133_0, hi133_0⟩ := at_L3 HR0_6.out x9_4 p133 q133
          cases e133
          replace hx133_0 := (HB.out.cell (Zh w _ hx133_0)).trans hx133_0
          have HR133_0 := Zma hi133_0
          have HC133_0 := Zma hl133_0
          clear hi133_0 hl133_0
          replace p133 := Zja p133
          replace q133 := Zja q133
          go_wp2_with (first | ((with_reducible refine gate_builtin (b := .append) (xs := #[.tmp 60, .tmp 65]) rfl ?_); at_builtin; refine Kd.R_append_rows (Kd.int .u8) (w0 := w) w.heap.size rfl (.tmp 60) (.tmp 65) 28 5 (.int .u8 0) 1 rfl Try.underlying28 info5 rfl (by decide) (by omega) u6 x6_4 (rd_L3 l0_6 x9_4) _ _ _ (fun _ => True) (fun _ => False) rfl rfl ?aO ?aR (fun _ _ h => h) (fun _ h => h.elim) ?aF ?aB ?aS ?aL ?_; (case aR => exact cq ((Kd.C_below HR133_0.out HB.out))); (case aB => exact bq); (case aF => exact (fun _ _ => trivial)); (case aO => exact (rq HO_6.out)); (case aS => exact (Zfa bq)); (case aL => have := LMc42.out; omega); intro v135 w44 ho hb hg hat; rw [← Ny134.out] at ho; have n0_ := Zma (blk_grown (g := gb101) (o := .cells #[.int .i64 a0_0, .int .i64 a0_1, .bool a0_2, .bool a0_3, .bool a0_4, .bool a0_5, .slice (some ad133) l0_6.length c0_6] 50 (0, 0)) (kq BK101.out) hg (Kd.R_ne HO_6.out BK101.out (by decide))); have n1_ := Zma (hb); have n2_ := Zma (ho); clear BK101 HB HO_6; have BK101 := n0_; have HB := n1_; have HO136 := n2_; clear n0_ n1_ n2_ ho hb hg hat))
          go_roundg k4
          case measure => have := HJ2.out; have := HJ6.out; have := HJ9.out; have := HK4.out; omega
          case rel => exact ⟨(y134), (wrap64 (x9_4 + 1)), (by first | rfl | (simp; done) | (simp [*]; done)), H', ⟨by have := HJ2.out; have := HJ6.out; have := HJ9.out; have := HK4.out; omega⟩, ⟨rq HO136.out⟩, ⟨kq BK101.out⟩, ⟨bq⟩⟩
         rw [if_neg c40] at H
         have c40b0 : decide (x9_4 < (l0_6.length : Int)) = false := Zna c40
         clear c40
         obtain rfl := Zgb H
         obtain ⟨hcz45_0, hcz45_1, hcz45_2, hcz45_3, hcz45_4, hcz45_5, hcz45_6, hfz45_0, hfz45_1, hfz45_2, hfz45_3, hfz45_4, hfz45_5, hfz45_6⟩ := blk7 BK101.out
         go_wp2
         go_ret
         exact ⟨_, by first | rfl | (simp [errW_none, errW_some] <;> rfl) | (simp [*, errW_none, errW_some] <;> rfl), rq HO_6.out, bq⟩

def psalteryref18_bytes.f (seq gran : Int) (first last cont more : Bool) (p : List (List Int)) (s : Int) : Option (List Int) := if smallP p ∧ p.flatten.length ≤ 500000 ∧ (lacesL more p).length ≤ 255 ∧ (0 ≤ seq ∧ seq ≤ 4294967295) ∧ (0 ≤ gran ∧ gran ≤ 4611686018427387904) ∧ (0 ≤ s ∧ s < 4294967296) then some (pageWith seq gran first last cont more p s) else none
theorem psalteryref18_bytes.of {seq gran : Int} {first last cont more : Bool} {p : List (List Int)} {s : Int} {r : List Int} (h : psalteryref18_bytes.f seq gran first last cont more p s = some r) : ∃ k, psalteryref18_bytes_raw.f k seq gran first last cont more p s = some r := by
  unfold psalteryref18_bytes.f at h
  split at h
  case isFalse => cases h
  case isTrue hs0 =>
    obtain ⟨hs, hf, hL, ⟨h1, h2⟩, ⟨h3, h4⟩, ⟨h5, h6⟩⟩ := hs0
    injection h with h
    subst h
    have hn := hs.1
    refine Ev.rounds ?_
    have hlow : ∀ (v : Int) (n : Nat), 0 ≤ v → v ≤ 9223372036854775807 → n ≤ 8 → psalteryref18_low.f v (n : Int) = some (lowI v n) := fun v n a b c => by
      unfold psalteryref18_low.f
      rw [if_pos ⟨a, b, by omega, by omega⟩, Int.toNat_natCast]
    have q8 := hlow gran 8 h3 (by omega) (by omega)
    have q4 := hlow seq 4 h1 (by omega) (by omega)
    have qs := hlow s 4 h5 (by omega) (by omega)
    rw [show ((8 : Nat) : Int) = 8 from rfl] at q8
    rw [show ((4 : Nat) : Int) = 4 from rfl] at q4 qs
    have hLc : psalteryref18_Laces.f seq gran first last cont more p = some (lacesL more p, true) := by
      unfold psalteryref18_Laces.f
      rw [if_pos hs, if_pos hL]
    have hlen17 := pageHead_length seq gran first last cont
    have hloop : ∀ (d j : Nat) (z : List Int), j ≤ p.length → p.length - j = d → z ++ (p.drop j).flatten = pageWith seq gran first last cont more p s → Ev (fun k => psalteryref18_bytes_raw.l0 k z (j : Int) seq gran first last cont more p) (pageWith seq gran first last cont more p s) := by
      intro d
      induction d with
      | zero =>
        intro j z hj hd hz
        obtain rfl : j = p.length := by omega
        rw [List.drop_length, List.flatten_nil, List.append_nil] at hz
        subst hz
        refine Ev.step (f := fun _ => some (pageWith seq gran first last cont more p s)) (fun k => ?_) (Ev.now _)
        simp only [psalteryref18_bytes_raw.l0]
        rw [if_neg (Int.lt_irrefl _)]
      | succ d ih =>
        intro j z hj hd hz
        have hj1 : j < p.length := by omega
        have g1 : (j : Int) < (p.length : Int) := by omega
        have g2 : (0 : Int) ≤ (j : Int) := by omega
        have hzl : z.length + (rd_L3 p (j : Int)).length < 140737488355328 := by
          have := congrArg List.length hz
          rw [drop_cons p j hj1, List.flatten_cons, List.length_append, List.length_append, pageWith_length] at this
          omega
        rw [drop_cons p j hj1, List.flatten_cons, ← List.append_assoc] at hz
        refine Ev.step (fun k => ?_) (ih (j + 1) _ (by omega) (by omega) hz)
        simp only [psalteryref18_bytes_raw.l0]
        rw [if_pos g1, if_pos g2, if_pos hzl, wsucc j (by omega)]
    have hj2 : ∀ fl : Int, fl = flagI first last cont → Ev (fun k => psalteryref18_bytes_raw.j2 k s fl seq gran first last cont more p) (pageWith seq gran first last cont more p s) := fun fl hfl => by
      have hflr : fl % 256 = fl := by
        rw [hfl]
        cases first <;> cases last <;> cases cont <;> decide
      have hn256 : (((lacesL more p).length : Int)) % 256 = ((lacesL more p).length : Int) := by omega
      have H := hloop p.length 0 (pageHead seq gran first last cont ++ lowI s 4 ++ [((lacesL more p).length : Int)] ++ lacesL more p) (by omega) (by omega) (by
        rw [List.drop_zero]
        unfold pageWith pageTail
        simp only [List.append_assoc])
      have e17 : ([80, 83, 76, 84, fl % 256] : List Int) ++ lowI gran 8 ++ lowI seq 4 = pageHead seq gran first last cont := by rw [hflr, hfl]; rfl
      have l8 : (lowI gran 8).length = 8 := lowI_length _ _
      have l4 : (lowI seq 4).length = 4 := lowI_length _ _
      have ls : (lowI s 4).length = 4 := lowI_length _ _
      have g1 : ([80, 83, 76, 84, fl % 256] : List Int).length + (lowI gran 8).length < 140737488355328 := by rw [l8]; simp only [List.length_cons, List.length_nil]; omega
      have g2 : (([80, 83, 76, 84, fl % 256] : List Int) ++ lowI gran 8).length + (lowI seq 4).length < 140737488355328 := by rw [List.length_append, l8, l4]; simp only [List.length_cons, List.length_nil]; omega
      have g3 : (pageHead seq gran first last cont).length + (lowI s 4).length < 140737488355328 := by rw [hlen17, ls]; decide
      have g4 : (pageHead seq gran first last cont ++ lowI s 4).length < 140737488355328 := by rw [List.length_append, hlen17, ls]; decide
      have g5 : (pageHead seq gran first last cont ++ lowI s 4 ++ [((lacesL more p).length : Int)]).length + (lacesL more p).length < 140737488355328 := by rw [List.length_append, List.length_append, hlen17, ls, List.length_singleton]; omega
      refine Ev.step (fun k => ?_) H
      simp only [psalteryref18_bytes_raw.j2]
      rw [Zsa, q8, Zsa, if_pos g1, Zsa, q4, Zsa, if_pos g2, Zsa, qs, Zsa, e17, if_pos g3, Zsa, hLc, Zsa, hn256, if_pos g4, Zsa, if_pos g5]
      rfl
    have hw2 : ∀ x : Int, 0 ≤ x → x ≤ 100 → wrap64 (x + 2) = x + 2 := fun x a b => wrap64_of (by omega) (by omega)
    have hw4 : ∀ x : Int, 0 ≤ x → x ≤ 100 → wrap64 (x + 4) = x + 4 := fun x a b => wrap64_of (by omega) (by omega)
    have hj1 : ∀ x : Int, 0 ≤ x → x ≤ 100 → x + (if last then 4 else 0) = flagI first last cont → Ev (fun k => psalteryref18_bytes_raw.j1 k s x seq gran first last cont more p) (pageWith seq gran first last cont more p s) := fun x a b hx => by
      refine Ev.step (fun k => ?_) (hj2 _ hx)
      simp only [psalteryref18_bytes_raw.j1]
      cases last with
      | true => rw [if_pos rfl, hw4 x a b]; rfl
      | false => rw [if_neg (by simp)]; simp
    have hj0 : ∀ x : Int, 0 ≤ x → x ≤ 10 → x + (if first then 2 else 0) + (if last then 4 else 0) = flagI first last cont → Ev (fun k => psalteryref18_bytes_raw.j0 k s x seq gran first last cont more p) (pageWith seq gran first last cont more p s) := fun x a b hx => by
      have hr : 0 ≤ x + (if first = true then (2 : Int) else 0) ∧ x + (if first = true then (2 : Int) else 0) ≤ 100 := by split <;> omega
      refine Ev.step (fun k => ?_) (hj1 _ hr.1 hr.2 hx)
      simp only [psalteryref18_bytes_raw.j0]
      cases first with
      | true => rw [if_pos rfl, hw2 x a (by omega)]; rfl
      | false => rw [if_neg (by simp)]; simp
    unfold psalteryref18_bytes_raw.f
    cases cont with
    | true =>
      simp only [if_true]
      exact hj0 1 (by omega) (by omega) (by simp [flagI])
    | false =>
      simp only [Bool.false_eq_true, if_false]
      exact hj0 0 (by omega) (by omega) (by simp [flagI])
theorem psalteryref18_bytes.calls (a0_0 : Int) (a0_1 : Int) (a0_2 : Bool) (a0_3 : Bool) (a0_4 : Bool) (a0_5 : Bool) (A0_6 : Option Addr) (c0_6 : Nat) (l0_6 : List (List Int)) (a1 : Int) (r : List Int) (w : World) (hr0_6 : Kd.C (Kd.slice 5 (Kd.int .u8)) w A0_6 l0_6.length l0_6) (hc0_6 : l0_6.length ≤ c0_6) (h : psalteryref18_bytes.f a0_0 a0_1 a0_2 a0_3 a0_4 a0_5 l0_6 a1 = some r) :
  Calls Try.prog 76 #[.agg #[.int .i64 a0_0, .int .i64 a0_1, .bool a0_2, .bool a0_3, .bool a0_4, .bool a0_5, .slice A0_6 l0_6.length c0_6], .int .i64 a1] w fun e w' => ∃ v0_ : Value, e = .returned (v0_) ∧ Kd.R (Kd.int .u8) 5 w' w.heap.size (fun _ => True) v0_ r ∧ Below w.heap.size w w' := by
  obtain ⟨k, hk⟩ := psalteryref18_bytes.of h
  exact psalteryref18_bytes_raw.calls k a0_0 a0_1 a0_2 a0_3 a0_4 a0_5 A0_6 c0_6 l0_6 a1 r w hr0_6 hc0_6 hk

/-! ### psalteryref18_sum: function 77 -/
def psalteryref18_sum.f (l0 : List Int) (l1 : List Int) : Option (Int) := (psalteryref02_Add.f l0 4294967295 l1).bind fun t101 => (some (wrap64 (Go.bits .xor .u32 t101 4294967295)))
set_option maxHeartbeats 8000000 in
set_option maxRecDepth 100000 in
theorem psalteryref18_sum.calls (A0 : Option Addr) (c0 : Nat) (l0 : List Int) (A1 : Option Addr) (c1 : Nat) (l1 : List Int) (r : Int) (w : World) (hr0 : Kd.C (Kd.int .u32) w A0 l0.length l0) (hc0 : l0.length ≤ c0) (hr1 : Kd.C (Kd.int .u8) w A1 l1.length l1) (hc1 : l1.length ≤ c1) (h : psalteryref18_sum.f l0 l1 = some r) :
  Calls Try.prog 77 #[.slice A0 l0.length c0, .slice A1 l1.length c1] w fun e w' => e = .returned (.int .i64 r) ∧ Drawn0 w w' := by
 have HR0 := Zma hr0
 have HC0 := Zma hc0
 clear hr0 hc0
 have HR1 := Zma hr1
 have HC1 := Zma hc1
 clear hr1 hc1
 have H : ((psalteryref02_Add.f l0 4294967295 l1).bind fun t101 => (some (wrap64 (Go.bits .xor .u32 t101 4294967295)))) = some r := h
 clear h
 replace H := Option.bind_eq_some_iff.mp H
 obtain ⟨t101, A30, H⟩ := H
 replace H : (some (wrap64 (Go.bits .xor .u32 t101 4294967295))) = some r := H
 have A3 := Zma A30
 clear A30
 obtain rfl := Zgb H
 go_enter Try.func77, Try.ntmps77
 go_wp2_with (first | ((with_reducible refine gate_callee (f := 29) rfl ?_); refine goesL_ (some 7) rfl rfl Try.func29 (by kernel_rfl) rfl #[.slice A0 l0.length c0, .int .u32 4294967295, .slice A1 l1.length c1] rfl (by (try simp only [Zdb, Zeb, Zfb]); first | done | rfl | (simp only [Zha, Zga]; rfl)) ?_; (with_reducible refine (psalteryref02_Add.calls _ _ l0 4294967295 _ _ l1 t101 _ ?side1 ?side2 ?side3 ?side4 A3.out).mono ?_); (case side1 => exact cq HR0.out); (case side2 => exact HC0.out); (case side3 => exact cq HR1.out); (case side4 => exact HC1.out); rintro e w' ⟨rfl, ⟨nd, rfl⟩⟩; refine ⟨_, rfl, ?_⟩))
 go_ret
 exact ⟨by first | rfl | (simp; done) | (simp [*]; done), by repeat (first | exact Drawn0.refl _ | apply Drawn0.step)⟩

/-! ### psalteryref18_Write: function 56 -/
def psalteryref18_Write.f (l0 : List Int) (a1_0 : Int) (a1_1 : Int) (a1_2 : Bool) (a1_3 : Bool) (a1_4 : Bool) (a1_5 : Bool) (l1_6 : List (List Int)) : Option (List Int) := (psalteryref18_bytes.f a1_0 a1_1 a1_2 a1_3 a1_4 a1_5 l1_6 0).bind fun t102 => ((psalteryref18_sum.f l0 t102).bind fun t105 => ((psalteryref18_bytes.f a1_0 a1_1 a1_2 a1_3 a1_4 a1_5 l1_6 t105).bind fun t106 => (some t106)))
set_option maxHeartbeats 8000000 in
set_option maxRecDepth 100000 in
theorem psalteryref18_Write.calls (A0 : Option Addr) (c0 : Nat) (l0 : List Int) (a1_0 : Int) (a1_1 : Int) (a1_2 : Bool) (a1_3 : Bool) (a1_4 : Bool) (a1_5 : Bool) (A1_6 : Option Addr) (c1_6 : Nat) (l1_6 : List (List Int)) (r : List Int) (w : World) (hr0 : Kd.C (Kd.int .u32) w A0 l0.length l0) (hc0 : l0.length ≤ c0) (hr1_6 : Kd.C (Kd.slice 5 (Kd.int .u8)) w A1_6 l1_6.length l1_6) (hc1_6 : l1_6.length ≤ c1_6) (h : psalteryref18_Write.f l0 a1_0 a1_1 a1_2 a1_3 a1_4 a1_5 l1_6 = some r) :
  Calls Try.prog 56 #[.slice A0 l0.length c0, .agg #[.int .i64 a1_0, .int .i64 a1_1, .bool a1_2, .bool a1_3, .bool a1_4, .bool a1_5, .slice A1_6 l1_6.length c1_6]] w fun e w' => ∃ v0_ : Value, e = .returned (v0_) ∧ Kd.R (Kd.int .u8) 5 w' w.heap.size (fun _ => True) v0_ r ∧ Below w.heap.size w w' := by
 have hu50 := Try.underlying50
 have HR0 := Zma hr0
 have HC0 := Zma hc0
 clear hr0 hc0
 have HR1_6 := Zma hr1_6
 have HC1_6 := Zma hc1_6
 clear hr1_6 hc1_6
 have HB := Zma (Below.refl w.heap.size w)
 have H : ((psalteryref18_bytes.f a1_0 a1_1 a1_2 a1_3 a1_4 a1_5 l1_6 0).bind fun t102 => ((psalteryref18_sum.f l0 t102).bind fun t105 => ((psalteryref18_bytes.f a1_0 a1_1 a1_2 a1_3 a1_4 a1_5 l1_6 t105).bind fun t106 => (some t106)))) = some r := h
 clear h
 replace H := Option.bind_eq_some_iff.mp H
 obtain ⟨t102, A30, H⟩ := H
 replace H : ((psalteryref18_sum.f l0 t102).bind fun t105 => ((psalteryref18_bytes.f a1_0 a1_1 a1_2 a1_3 a1_4 a1_5 l1_6 t105).bind fun t106 => (some t106))) = some r := H
 have A3 := Zma A30
 clear A30
 replace H := Option.bind_eq_some_iff.mp H
 obtain ⟨t105, A40, H⟩ := H
 replace H : ((psalteryref18_bytes.f a1_0 a1_1 a1_2 a1_3 a1_4 a1_5 l1_6 t105).bind fun t106 => (some t106)) = some r := H
 have A4 := Zma A40
 clear A40
 replace H := Option.bind_eq_some_iff.mp H
 obtain ⟨t106, A50, H⟩ := H
 replace H : (some t106) = some r := H
 have A5 := Zma A50
 clear A50
 obtain rfl := Zgb H
 go_enter Try.func56, Try.ntmps56
 try go_wp2_with (first | ((with_reducible refine gate_dst (N := 3) rfl ?_); refine box_event ?hg (N := 3) ?hd (cs := #[.int .i64 a1_0, .int .i64 a1_1, .bool a1_2, .bool a1_3, .bool a1_4, .bool a1_5, .slice A1_6 l1_6.length c1_6]) (t := 50) ?hr ?_; (case hd => rfl); (case hg => rfl); (case hr => first | (go_simp; done) | (go_simp; rfl)); intro gb101 hg w6 hbox hb; have n0_ := Zma (Zoa bq hb); have n1_ := Zma (hbox); have n2_ := Zma ((by rw [hg]; exact (Zfa bq) : w.heap.size ≤ gb101)); have n3_ := Zma ((by rw [hg]; exact (Zfa bq) : w.heap.size ≤ gb101)); clear HB; have HB := n0_; have BK101 := n1_; have GW101 := n2_; have GE101 := n3_; clear n0_ n1_ n2_ n3_ hb hbox hg))
 have n0_ := Zma (Zl BK101.out)
 have n1_ := Zma (Zla HB.out)
 clear BK101 HB; have BK101 := n0_; have HB := n1_; clear n0_ n1_
 refine start_ (n := 7) (S := fun w' => w'.cell? ⟨gb101, 0, none⟩ = some (.int .i64 a1_0) ∧ w'.cell? ⟨gb101, 1, none⟩ = some (.int .i64 a1_1) ∧ w'.cell? ⟨gb101, 2, none⟩ = some (.bool a1_2) ∧ w'.cell? ⟨gb101, 3, none⟩ = some (.bool a1_3) ∧ w'.cell? ⟨gb101, 4, none⟩ = some (.bool a1_4) ∧ w'.cell? ⟨gb101, 5, none⟩ = some (.bool a1_5) ∧ w'.cell? ⟨gb101, 6, none⟩ = some (.slice A1_6 l1_6.length c1_6)) (ds := []) #[ZF,ZF,ZF,ZF,ZF,ZF,ZF] (by kernel_rfl) rfl rfl (cel7 BK101.out) (fun hHeld => ?_)
 generalize w6.drew = w7 at BK101 HB hHeld ⊢
 refine pure_ (i := 1) (N := some 6) (v := ?_) (a' := ?_) #[ZF,ZT,ZF,ZF,ZF,ZF,ZF] rfl rfl (by kernel_rfl) (fun _ _ _ h => h) (Or.inl ⟨by rfl, ?_⟩) ?_ ?_
 rotate_left
 ·intro w'
  go_simp
  with_reducible rfl
 rotate_left
 ·simp only [Act.put, Za, Zb, Zc, i64_w, i32_w]
  rfl
 refine take_ (i := 0) (N := some 5) (v := ?_) (a' := ?_) #[ZT,ZT,ZF,ZF,ZF,ZF,ZF] rfl rfl (by kernel_rfl) (fun _ _ _ h => h) (Or.inl ⟨by rfl, ?_⟩) hHeld ?_ ?_
 rotate_left
 ·rintro w' ⟨s0, s1, s2, s3, s4, s5, s6⟩
  go_simp
  with_reducible rfl
 rotate_left
 ·simp only [Act.put, Za, Zb, Zc, i64_w, i32_w]
  rfl
 refine take_ (i := 2) (N := some 7) (v := ?_) (a' := ?_) #[ZT,ZT,ZT,ZF,ZF,ZF,ZF] rfl rfl (by kernel_rfl) (fun _ _ _ h => h) (Or.inl ⟨by rfl, ?_⟩) hHeld ?_ ?_
 rotate_left
 ·rintro w' ⟨s0, s1, s2, s3, s4, s5, s6⟩
  go_simp
  with_reducible rfl
 rotate_left
 ·simp only [Act.put, Za, Zb, Zc, i64_w, i32_w]
  rfl
 refine one_ (i := 3) (N := some 8) #[ZT,ZT,ZT,ZT,ZF,ZF,ZF] rfl rfl (by kernel_rfl) (by decide) (fun K hK => ?_)
 refine goes_ Try.func76 (by kernel_rfl) rfl #[.agg #[.int .i64 a1_0, .int .i64 a1_1, .bool a1_2, .bool a1_3, .bool a1_4, .bool a1_5, .slice A1_6 l1_6.length c1_6], .int .i64 0] (by rfl) rfl rfl (by (try simp only [Zdb, Zeb, Zfb]); first | done | rfl | (simp only [Zha, Zga]; rfl)) ?_
 with_reducible refine (psalteryref18_bytes.calls a1_0 a1_1 a1_2 a1_3 a1_4 a1_5 _ _ l1_6 0 t102 _ ?side1 ?side2 A3.out).mono ?_
 (case side1 => exact cq ((Kd.C_below HR1_6.out HB.out)))
 (case side2 => exact HC1_6.out)
 rintro e w8 ⟨v103, rfl, ho0, hb⟩
 refine ⟨_, rfl, ?_⟩
 have n0_ := Zma (Zxa ho0 (Zfa bq))
 have n1_ := Zma (Zab (g := gb101) (o := .cells #[.int .i64 a1_0, .int .i64 a1_1, .bool a1_2, .bool a1_3, .bool a1_4, .bool a1_5, .slice A1_6 l1_6.length c1_6] 50 (0, 0)) (kq BK101.out) hb)
 have n2_ := Zma (Zoa bq hb)
 clear BK101 HB; have HO104 := n0_; have BK101 := n1_; have HB := n2_; clear n0_ n1_ n2_
 (try clear hb)
 (try clear ho0)
 obtain ⟨Ao9, co9, eo9⟩ := Kd.R_slice HO104.out
 (first | subst eo9 | (injection eo9 with f1_ f2_ f3_; have f4_ := f1_.symm; have f5_ := f3_.symm; clear f1_ f2_ f3_; subst f4_; subst f5_))
 refine hK.out _ _ (cel7 BK101.out) (fun hHeld => ?_)
 clear hK K
 refine n1 8 ?_
 refine one_ (i := 4) (N := some 9) #[ZT,ZT,ZT,ZT,ZT,ZF,ZF] rfl rfl (by kernel_rfl) (by decide) (fun K hK => ?_)
 refine goes_ Try.func77 (by kernel_rfl) rfl #[.slice A0 l0.length c0, .slice Ao9 t102.length co9] (by rfl) rfl rfl (by (try simp only [Zdb, Zeb, Zfb]); first | done | rfl | (simp only [Zha, Zga]; rfl)) ?_
 with_reducible refine (psalteryref18_sum.calls _ _ l0 _ _ t102 t105 _ ?side1 ?side2 ?side3 ?side4 A4.out).mono ?_
 (case side1 => exact cq ((Kd.C_below HR0.out HB.out)))
 (case side2 => exact HC0.out)
 (case side3 => exact cq ((Zkb HO104.out).2.2))
 (case side4 => exact (Zkb HO104.out).2.1)
 rintro e w' ⟨rfl, ⟨nd, rfl⟩⟩
 refine ⟨_, rfl, ?_⟩
 refine hK.out _ _ (cel7 BK101.out) (fun hHeld => ?_)
 clear hK K
 refine n1 9 ?_
 refine one_ (i := 5) (N := some 10) #[ZT,ZT,ZT,ZT,ZT,ZT,ZF] rfl rfl (by kernel_rfl) (by decide) (fun K hK => ?_)
 refine goes_ Try.func76 (by kernel_rfl) rfl #[.agg #[.int .i64 a1_0, .int .i64 a1_1, .bool a1_2, .bool a1_3, .bool a1_4, .bool a1_5, .slice A1_6 l1_6.length c1_6], .int .i64 t105] (by rfl) rfl rfl (by (try simp only [Zdb, Zeb, Zfb]); first | done | rfl | (simp only [Zha, Zga]; rfl)) ?_
 with_reducible refine (psalteryref18_bytes.calls a1_0 a1_1 a1_2 a1_3 a1_4 a1_5 _ _ l1_6 t105 t106 _ ?side1 ?side2 A5.out).mono ?_
 (case side1 => exact cq ((Kd.C_below HR1_6.out bq)))
 (case side2 => exact HC1_6.out)
 rintro e w10 ⟨v107, rfl, ho0, hb⟩
 refine ⟨_, rfl, ?_⟩
 have n0_ := Zma (Kd.R_elder' (rq HO104.out) (Kd.R_base ho0) hb)
 have n1_ := Zma (Zxa (Kd.R_new' ho0 (Kd.R_lt (rq HO104.out))) (Zfa bq))
 have n2_ := Zma (Zab (g := gb101) (o := .cells #[.int .i64 a1_0, .int .i64 a1_1, .bool a1_2, .bool a1_3, .bool a1_4, .bool a1_5, .slice A1_6 l1_6.length c1_6] 50 (0, 0)) (kq BK101.out) hb)
 have n3_ := Zma (Zoa bq hb)
 clear HO104 BK101 HB; have HO104 := n0_; have HO108 := n1_; have BK101 := n2_; have HB := n3_; clear n0_ n1_ n2_ n3_
 (try clear hb)
 (try clear ho0)
 refine hK.out _ _ (cel7 BK101.out) (fun hHeld => ?_)
 clear hK K
 refine n1 10 ?_
 refine pure_ (i := 6) (N := some 4) (v := ?_) (a' := ?_) #[ZT,ZT,ZT,ZT,ZT,ZT,ZT] rfl rfl (by kernel_rfl) (fun _ _ _ h => h) (Or.inl ⟨by rfl, ?_⟩) ?_ ?_
 rotate_left
 ·intro w'
  go_simp
  with_reducible rfl
 rotate_left
 ·simp only [Act.put, Za, Zb, Zc, i64_w, i32_w]
  rfl
 refine done_ (by kernel_rfl) ?_
 try go_wp2
 go_ret
 exact ⟨_, by first | rfl | (simp [errW_none, errW_some] <;> rfl) | (simp [*, errW_none, errW_some] <;> rfl), by refine rq ?_; exact Kd.R_mono HO108.out (fun _ hk => trivial), bq⟩

end Go.Proofs.Yteoclecadpapfaa.G
