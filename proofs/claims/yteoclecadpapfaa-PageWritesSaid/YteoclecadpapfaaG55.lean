/- What a call of psaltery/psalteryref18.lace, psaltery/psalteryref18.Laces, psaltery/psalteryref18.Right does, told by a plain Lean function of its arguments. Written by a program for this claim. -/
import Derived.Test.YteoclecadpapfaaG0
import Derived.Test.YteoclecadpapfaaM13
import Derived.Test.YteoclecadpapfaaM4
import Derived.Test.YteoclecadpapfaaM24
namespace Go.Proofs.Yteoclecadpapfaa.G
open Go.RowKit Go.Proofs.YteoclecadpapfaaW.PrintWords Go.Proofs.YteoclecadpapfaaW.PrintLast Go.Proofs.YteoclecadpapfaaW.PrintMore
attribute [local go_sem] max2_int min2_int max_two min_two max_three min_three max_four min_four
set_option linter.unusedVariables false
set_option linter.unusedSimpArgs false

/-! ### psalteryref18_lace_raw: function 79 -/
def psalteryref18_lace_raw.f : Nat → Int → Bool → Option (List Int)
 | 0, _, _ => none
 | k + 1, a0, a1 => if a0 ≥ 255 then ((some (([255] : List Int) : List Int)).bind fun y101 => ((psalteryref18_lace_raw.f k (wrap64 (a0 - 255)) a1).bind fun t104 => (if y101.length + t104.length < 140737488355328 then (some (y101 ++ t104)) else (none)))) else (if a1 = true then (some ([] : List Int)) else (some (([(a0) % 256] : List Int))))
set_option maxHeartbeats 8000000 in
set_option maxRecDepth 100000 in
theorem psalteryref18_lace_raw.calls (k : Nat) : ∀ (a0 : Int) (a1 : Bool) (r : List Int) (w : World) (h : psalteryref18_lace_raw.f k a0 a1 = some r),
  Calls Try.prog 79 #[.int .i64 a0, .bool a1] w fun e w' => ∃ v0_ : Value, e = .returned (v0_) ∧ Kd.R (Kd.int .u8) 5 w' w.heap.size (fun _ => True) v0_ r ∧ Below w.heap.size w w' := by
 induction k using Nat.strongRecOn with
 | _ k ih =>
 intro a0 a1 r w h
 cases k with
 | zero => exact absurd h (by simp [psalteryref18_lace_raw.f])
 | succ k =>
 simp only [psalteryref18_lace_raw.f] at h
 have HB := Zma (Below.refl w.heap.size w)
 have H : (if a0 ≥ 255 then ((some (([255] : List Int) : List Int)).bind fun y101 => ((psalteryref18_lace_raw.f k (wrap64 (a0 - 255)) a1).bind fun t104 => (if y101.length + t104.length < 140737488355328 then (some (y101 ++ t104)) else (none)))) else (if a1 = true then (some ([] : List Int)) else (some (([(a0) % 256] : List Int))))) = some r := h
 clear h
 by_cases c3 : a0 ≥ 255
 ·rw [if_pos c3] at H
  have c3b0 : decide (255 ≤ a0) = true := Zn c3
  clear c3
  obtain ⟨y101, hy101⟩ : ∃ y_ : List Int, y_ = (([255] : List Int)) := ⟨_, rfl⟩
  replace H : ((psalteryref18_lace_raw.f k (wrap64 (a0 - 255)) a1).bind fun t104 => (if y101.length + t104.length < 140737488355328 then (some (y101 ++ t104)) else (none))) = some r := by first | (rw [hy101]; with_reducible exact H) | (have H2_ := (Zsa _ _).symm.trans H; rw [hy101]; with_reducible exact H2_) | (have H2_ := (Zsa _ _).symm.trans H; with_reducible exact H2_) | with_reducible exact H | (rw [hy101]; exact H) | exact H
  have Ny101 := Zma hy101
  clear hy101
  replace H := Option.bind_eq_some_iff.mp H
  obtain ⟨t104, A40, H⟩ := H
  replace H : (if y101.length + t104.length < 140737488355328 then (some (y101 ++ t104)) else (none)) = some r := H
  have A4 := Zma A40
  clear A40
  by_cases c5 : y101.length + t104.length < 140737488355328
  rotate_left
  ·rw [if_neg c5] at H
   exact absurd H (by simp)
  rw [if_pos c5] at H
  have LMc5 := Zma c5
  clear c5
  obtain ⟨y107, hy107⟩ : ∃ y_ : List Int, y_ = (y101 ++ t104) := ⟨_, rfl⟩
  replace H : (some y107) = some r := by first | (rw [hy107]; with_reducible exact H) | (have H2_ := (Zsa _ _).symm.trans H; rw [hy107]; with_reducible exact H2_) | (have H2_ := (Zsa _ _).symm.trans H; with_reducible exact H2_) | with_reducible exact H | (rw [hy107]; exact H) | exact H
  have Ny107 := Zma hy107
  clear hy107
  obtain rfl := Zgb H
  go_enter Try.func79, Try.ntmps79
  go_wp2_with (first | ((with_reducible refine gate_dst (N := 7) rfl ?_); refine Kd.R_lit (Kd.int .u8) _ 5 ?hg (N := 7) ?hd (xs := ([255] : List Int)) (inner := [.int .u8 255]) (ok := fun _ => True) (okp := fun _ => True) ?hr ?hp (fun _ hk => hk) trivial (Below.refl _ _) (Zra _) (by simp) ?_; (case hd => rfl); (case hg => rfl); (case hr => first | (go_simp; done) | (go_simp; rfl)); (case hp => exact (Reps.one (show Kd.M (Kd.int .u8) _ _ _ 255 [.int .u8 255] from rfl) (Reps.none _ _))); intro v102 w6 ho7 hb hg_ hnew_; clear hg_ hnew_; (first | rw [← Ny101.out] at ho7 | (simp only [Int.reduceToNat] at ho7; rw [← Ny101.out] at ho7)); have n0_ := Zma (Zxa ho7 (Zfa bq)); have n1_ := Zma (Zoa bq hb); clear HB; have HO103 := n0_; have HB := n1_; clear n0_ n1_ hb ho7) | ((with_reducible refine gate_callee (f := 79) rfl ?_); refine goesL_ (some 11) rfl rfl Try.func79 (by kernel_rfl) rfl #[.int .i64 (wrap64 (a0 - 255)), .bool a1] rfl (by (try simp only [Zdb, Zeb, Zfb]); first | done | rfl | (simp only [Zha, Zga]; rfl)) ?_; (with_reducible refine (ih k (by omega) (wrap64 (a0 - 255)) a1 t104 _ A4.out).mono ?_); rintro e w8 ⟨v105, rfl, ho0, hb⟩; refine ⟨_, rfl, ?_⟩; have n0_ := Zma (Kd.R_elder' (rq HO103.out) (Kd.R_base ho0) hb); have n1_ := Zma (Zxa (Kd.R_new' ho0 (Kd.R_lt (rq HO103.out))) (Zfa bq)); have n2_ := Zma (Zoa bq hb); clear HO103 HB; have HO103 := n0_; have HO106 := n1_; have HB := n2_; clear n0_ n1_ n2_; (try clear hb); (try clear hb2); (try clear hk); (try clear hi); (try clear ho0); obtain ⟨Ao10, co10, eo10⟩ := Kd.R_slice HO106.out; subst eo10) | ((with_reducible refine gate_builtin (b := .append) (xs := #[.tmp 7, .tmp 11]) rfl ?_); at_builtin; refine Kd.R_append_rows (Kd.int .u8) (w0 := w) w.heap.size rfl (.tmp 7) (.tmp 11) 28 5 (.int .u8 0) 1 rfl Try.underlying28 info5 rfl (by decide) (by omega) v102 y101 t104 _ _ _ (fun k_ => some k_ ≠ (.slice Ao10 t104.length co10 : Value).ownBlock) (fun _ => False) rfl rfl ?aO ?aR (fun _ _ h => h) (fun _ h => h.elim) ?aF ?aB ?aS ?aL ?_; (case aR => exact cq ((Zkb HO106.out).2.2)); (case aB => exact bq); (case aF => exact (fun k_ hk => Kd.fresh' (Kd.R_lt (rq HO106.out)) k_ hk)); (case aO => exact (by refine rq ?_; exact Kd.R_mono HO103.out (fun _ hk => hk.2))); (case aS => exact (Zfa bq)); (case aL => have := LMc5.out; omega); intro v108 w9 ho hb hg hat; rw [← Ny107.out] at ho; have n0_ := Zma (Kd.R_after (ok := (fun _ => True)) (rq HO106.out) hg hat); have n1_ := Zma (hb); have n2_ := Zma (ho); clear HO106 HB HO103; have HO106 := n0_; have HB := n1_; have HO109 := n2_; clear n0_ n1_ n2_ ho hb hg hat))
  go_ret
  exact ⟨_, by first | rfl | (simp [errW_none, errW_some] <;> rfl) | (simp [*, errW_none, errW_some] <;> rfl), by refine rq ?_; exact Kd.R_mono HO109.out (fun _ hk => trivial), bq⟩
 rw [if_neg c3] at H
 have c3b0 : decide (255 ≤ a0) = false := Zna c3
 clear c3
 by_cases c11 : a1 = true
 ·subst c11
  have H1 : (some ([] : List Int)) = some r := by rw [if_pos rfl] at H; exact H
  clear H
  have H := H1
  clear H1
  obtain rfl := Zgb H
  go_enter Try.func79, Try.ntmps79
  go_wp2
  go_ret
  exact ⟨_, by first | rfl | (simp [errW_none, errW_some] <;> rfl) | (simp [*, errW_none, errW_some] <;> rfl), by first | exact Kd.R_nil _ _ _ _ _ | exact Kd.N_nil _ _ _ _ _ | exact Kd.V_nil _ _ _ _ _ | exact Kd.Q_nil _ _ _ _ _ | exact Kd.S_nil _ _ _ _ _, bq⟩
 replace c11 := Bool.eq_false_iff.mpr c11
 subst c11
 have H1 : (some (([(a0) % 256] : List Int))) = some r := by rw [if_neg (show ¬ (false = true) by decide)] at H; exact H
 clear H
 have H := H1
 clear H1
 obtain ⟨y110, hy110⟩ : ∃ y_ : List Int, y_ = (([(a0) % 256] : List Int)) := ⟨_, rfl⟩
 replace H : (some y110) = some r := by first | (rw [hy110]; with_reducible exact H) | (have H2_ := (Zsa _ _).symm.trans H; rw [hy110]; with_reducible exact H2_) | (have H2_ := (Zsa _ _).symm.trans H; with_reducible exact H2_) | with_reducible exact H | (rw [hy110]; exact H) | exact H
 have Ny110 := Zma hy110
 clear hy110
 obtain rfl := Zgb H
 go_enter Try.func79, Try.ntmps79
 go_wp2_with (first | ((with_reducible refine gate_dst (N := 16) rfl ?_); refine Kd.R_lit (Kd.int .u8) _ 5 ?hg (N := 16) ?hd (xs := ([(a0) % 256] : List Int)) (inner := [.int .u8 ((a0) % 256)]) (ok := fun _ => True) (okp := fun _ => True) ?hr ?hp (fun _ hk => hk) trivial (Below.refl _ _) (Zra _) (by simp) ?_; (case hd => rfl); (case hg => rfl); (case hr => first | (go_simp; done) | (go_simp; rfl)); (case hp => exact (Reps.one (show Kd.M (Kd.int .u8) _ _ _ ((a0) % 256) [.int .u8 ((a0) % 256)] from rfl) (Reps.none _ _))); intro v111 w12 ho13 hb hg_ hnew_; clear hg_ hnew_; (first | rw [← Ny110.out] at ho13 | (simp only [Int.reduceToNat] at ho13; rw [← Ny110.out] at ho13)); have n0_ := Zma (Zxa ho13 (Zfa bq)); have n1_ := Zma (Zoa bq hb); clear HB; have HO112 := n0_; have HB := n1_; clear n0_ n1_ hb ho13))
 go_ret
 exact ⟨_, by first | rfl | (simp [errW_none, errW_some] <;> rfl) | (simp [*, errW_none, errW_some] <;> rfl), rq HO112.out, bq⟩

def psalteryref18_lace.f (n : Int) (o : Bool) : Option (List Int) := if 0 ≤ n ∧ n ≤ 70000 then some (if o = true then laceO n.toNat else laceC n.toNat) else none
theorem psalteryref18_lace.of {n : Int} {o : Bool} {r : List Int} (h : psalteryref18_lace.f n o = some r) : ∃ k, psalteryref18_lace_raw.f k n o = some r := by
  unfold psalteryref18_lace.f at h
  split at h
  case isFalse => cases h
  case isTrue hs =>
    injection h with h
    subst h
    obtain ⟨h0, h7⟩ := hs
    obtain ⟨m, rfl⟩ := Int.eq_ofNat_of_zero_le h0
    rw [Int.toNat_natCast]
    have go : ∀ (q m : Nat), m / 255 = q → m ≤ 70000 → psalteryref18_lace_raw.f (q + 1) (m : Int) o = some (if o = true then laceO m else laceC m) := by
      intro q
      induction q with
      | zero =>
        intro m hq hm
        have h255 : m < 255 := by omega
        rw [laceO_small m h255, laceC_small m h255, psalteryref18_lace_raw.f, if_neg (by omega)]
        cases o with
        | true => rfl
        | false => rw [if_neg (by simp), if_neg (by simp), show (m : Int) % 256 = (m : Int) by omega]
      | succ q ih =>
        intro m hq hm
        have h255 : 255 ≤ m := by omega
        have e1 : wrap64 ((m : Int) - 255) = ((m - 255 : Nat) : Int) := by rw [wrap64_of (by omega) (by omega)]; omega
        have hi := ih (m - 255) (by omega) (by omega)
        have hlen : (if o = true then laceO (m - 255) else laceC (m - 255)).length ≤ 300 := by
          split
          · rw [laceO_length]; omega
          · rw [laceC_length]; omega
        rw [psalteryref18_lace_raw.f, if_pos (by omega), Zsa, e1, hi, Zsa, if_pos (by simp only [List.length_cons, List.length_nil]; omega), laceO_step m h255, laceC_step m h255]
        cases o <;> rfl
    exact ⟨_, go _ m rfl (by omega)⟩
theorem psalteryref18_lace.calls (a0 : Int) (a1 : Bool) (r : List Int) (w : World) (h : psalteryref18_lace.f a0 a1 = some r) :
  Calls Try.prog 79 #[.int .i64 a0, .bool a1] w fun e w' => ∃ v0_ : Value, e = .returned (v0_) ∧ Kd.R (Kd.int .u8) 5 w' w.heap.size (fun _ => True) v0_ r ∧ Below w.heap.size w w' := by
  obtain ⟨k, hk⟩ := psalteryref18_lace.of h
  exact psalteryref18_lace_raw.calls k a0 a1 r w hk

/-! ### psalteryref18_Laces_raw: function 75 -/
def psalteryref18_Laces_raw.l0 : Nat → List Int → Int → Int → Int → Bool → Bool → Bool → Bool → List (List Int) → Option (List Int × Bool)
 | 0, _, _, _, _, _, _, _, _, _ => none
 | k + 1, x4, x5, x102000, x102001, x102002, x102003, x102004, x102005, x102006 => if x5 < (x102006.length : Int) then (if 0 ≤ x5 then (if ((rd_L3 x102006 x5).length : Int) > 70000 then (some (([] : List Int), false)) else (if x102005 = true then ((psalteryref18_lace.f ((rd_L3 x102006 x5).length : Int) (x5 == (wrap64 ((x102006.length : Int) - 1)))).bind fun t104 => (if x4.length + t104.length < 140737488355328 then ((some (x4 ++ t104 : List Int)).bind fun y107 => (if (y107.length : Int) > 255 then (some (([] : List Int), false)) else (psalteryref18_Laces_raw.l0 k y107 (wrap64 (x5 + 1)) x102000 x102001 x102002 x102003 x102004 x102005 x102006))) else (none))) else ((psalteryref18_lace.f ((rd_L3 x102006 x5).length : Int) false).bind fun t110 => (if x4.length + t110.length < 140737488355328 then ((some (x4 ++ t110 : List Int)).bind fun y113 => (if (y113.length : Int) > 255 then (some (([] : List Int), false)) else (psalteryref18_Laces_raw.l0 k y113 (wrap64 (x5 + 1)) x102000 x102001 x102002 x102003 x102004 x102005 x102006))) else (none))))) else (none)) else (some (x4, true))
def psalteryref18_Laces_raw.f (k : Nat) (a0_0 : Int) (a0_1 : Int) (a0_2 : Bool) (a0_3 : Bool) (a0_4 : Bool) (a0_5 : Bool) (l0_6 : List (List Int)) : Option (List Int × Bool) := psalteryref18_Laces_raw.l0 k ([] : List Int) 0 a0_0 a0_1 a0_2 a0_3 a0_4 a0_5 l0_6
def psalteryref18_Laces_raw.T7 : Bool × List (List Nat × List Nat) := (true, [([], []), ([], []), ([1], [1]), ([], []), ([2, 3], [2, 3]), ([4], [4]), ([5], [5]), ([], []), ([7], [7]), ([8], [8]), ([9], [9]), ([9], [9]), ([11, 9], [9, 11]), ([12, 9], [9, 12]), ([13, 9], [9, 13]), ([10, 14, 9], [9, 10, 14]), ([9, 15], [9, 15]), ([6, 16, 9], [6, 16]), ([0, 17, 17], [0, 17]), ([18, 18, 0, 1, 2, 3, 4, 5, 6, 7, 8, 9, 10, 11, 12, 13, 14, 15, 16, 17, 18], [0, 18])])
def psalteryref18_Laces_raw.B7 : List Nat := [0, 0, 2, 0, 14, 30, 62, 0, 128, 384, 896, 896, 2944, 7040, 15232, 32640, 65408, 131070, 262143, 524287]
theorem psalteryref18_Laces_raw.tab7 : rtab .any (opsOf Try.f75 7) = psalteryref18_Laces_raw.T7 := by kernel_rfl
theorem psalteryref18_Laces_raw.bits7 : waitsOk psalteryref18_Laces_raw.T7.2 psalteryref18_Laces_raw.B7 = true := by kernel_rfl
set_option maxHeartbeats 8000000 in
set_option maxRecDepth 100000 in
theorem psalteryref18_Laces_raw.calls (k : Nat) (a0_0 : Int) (a0_1 : Int) (a0_2 : Bool) (a0_3 : Bool) (a0_4 : Bool) (a0_5 : Bool) (A0_6 : Option Addr) (c0_6 : Nat) (l0_6 : List (List Int)) (r1 : List Int) (r2 : Bool) (w : World) (hr0_6 : Kd.C (Kd.slice 5 (Kd.int .u8)) w A0_6 l0_6.length l0_6) (hc0_6 : l0_6.length ≤ c0_6) (h : psalteryref18_Laces_raw.f k a0_0 a0_1 a0_2 a0_3 a0_4 a0_5 l0_6 = some (r1, r2)) :
  Calls Try.prog 75 #[.agg #[.int .i64 a0_0, .int .i64 a0_1, .bool a0_2, .bool a0_3, .bool a0_4, .bool a0_5, .slice A0_6 l0_6.length c0_6]] w fun e w' => ∃ v0_ : Value, e = .returned (.tuple #[v0_, .bool r2]) ∧ Kd.R (Kd.int .u8) 5 w' w.heap.size (fun _ => True) v0_ r1 ∧ Below w.heap.size w w' := by
 have hu50 := Try.underlying50
 have HR0_6 := Zma hr0_6
 have HC0_6 := Zma hc0_6
 clear hr0_6 hc0_6
 have HB := Zma (Below.refl w.heap.size w)
 have H : (psalteryref18_Laces_raw.l0 k ([] : List Int) 0 a0_0 a0_1 a0_2 a0_3 a0_4 a0_5 l0_6) = some (r1, r2) := h
 clear h
 have H' := Zma H
 clear H
 go_enter Try.func75, Try.ntmps75
 go_wp2_with (first | ((with_reducible refine gate_dst (N := 1) rfl ?_); (try (refine gate_guard (by rfl) ?_; dsimp only)); refine box_event ?hg (N := 1) ?hd (cs := #[.int .i64 a0_0, .int .i64 a0_1, .bool a0_2, .bool a0_3, .bool a0_4, .bool a0_5, .slice A0_6 l0_6.length c0_6]) (t := 50) ?hr ?_; (case hd => rfl); (case hg => rfl); (case hr => first | (go_simp; done) | (go_simp; rfl)); intro gb101 hg w2 hbox hb; have n0_ := Zma (Zoa bq hb); have n1_ := Zma (hbox); have n2_ := Zma ((by rw [hg]; exact (Zfa bq) : w.heap.size ≤ gb101)); have n3_ := Zma ((by rw [hg]; exact (Zfa bq) : w.heap.size ≤ gb101)); clear HB; have HB := n0_; have BK101 := n1_; have GW101 := n2_; have GE101 := n3_; clear n0_ n1_ n2_ n3_ hb hbox hg))
 go_loopg [4, 5] k (fun kq v4 v5 w' => ∃ (x4_1 : List Int) (x5_1 : Int), v5 = .int .i64 x5_1 ∧ Aside0 (psalteryref18_Laces_raw.l0 kq x4_1 x5_1 a0_0 a0_1 a0_2 a0_3 a0_4 a0_5 l0_6 = some (r1, r2)) ∧ Aside0 (kq ≤ k) ∧ Aside0 (Kd.R (Kd.int .u8) 5 w' w.heap.size (fun _ => True) v4 x4_1) ∧ Aside0 (w'.heap[gb101]? = some (.cells #[.int .i64 a0_0, .int .i64 a0_1, .bool a0_2, .bool a0_3, .bool a0_4, .bool a0_5, (.slice A0_6 l0_6.length c0_6)] 50 (0, 0))) ∧ Aside0 (Below w.heap.size w w'))
 case atStart => exact ⟨(([] : List Int)), (0), (by first | rfl | (simp; done) | (simp [*]; done)), H', ⟨Zra _⟩, ⟨by first | exact Kd.R_nil _ _ _ _ _ | exact Kd.N_nil _ _ _ _ _ | exact Kd.V_nil _ _ _ _ _ | exact Kd.Q_nil _ _ _ _ _ | exact Kd.S_nil _ _ _ _ _⟩, ⟨kq BK101.out⟩, ⟨bq⟩⟩
 case round =>
  clear H'
  try clear p2
  obtain ⟨x4_1, x5_1, rfl, HA, HK1, HO_4, BK101, HB⟩ := hrel
  cases gk with
  | zero => exact absurd HA.out (by simp [psalteryref18_Laces_raw.l0])
  | succ k1 =>
   have H := HA.out
   clear HA
   simp only [psalteryref18_Laces_raw.l0] at H
   by_cases c3 : x5_1 < (l0_6.length : Int)
   ·rw [if_pos c3] at H
    have c3b0 : decide (x5_1 < (l0_6.length : Int)) = true := Zn c3
    clear c3
    by_cases c4 : 0 ≤ x5_1
    rotate_left
    ·rw [if_neg c4] at H
     exact absurd H (by simp)
    rw [if_pos c4] at H
    have c4b0 : decide (0 ≤ x5_1) = true := Zn c4
    clear c4
    by_cases c5 : ((rd_L3 l0_6 x5_1).length : Int) > 70000
    ·rw [if_pos c5] at H
     have c5b0 : decide (70000 < ((rd_L3 l0_6 x5_1).length : Int)) = true := Zn c5
     have c5b1 : decide (70000 < (rd_L3 l0_6 x5_1).length) = true := Zn (by omega)
     clear c5
     simp only [Zib, Zhb] at H
     obtain ⟨rfl, rfl⟩ := H
     obtain ⟨hcz6_0, hcz6_1, hcz6_2, hcz6_3, hcz6_4, hcz6_5, hcz6_6, hfz6_0, hfz6_1, hfz6_2, hfz6_3, hfz6_4, hfz6_5, hfz6_6⟩ := blk7 BK101.out
     have p102 : 0 ≤ (x5_1 : Int) := Zg (by first | (with_reducible assumption) | assumption)
     have q102 : x5_1 < (l0_6.length : Int) := Zg (by first | (with_reducible assumption) | assumption)
     obtain ⟨ad102, A102_0, c102_0, e102, hx102_0, hl102_0, hi102_0⟩ := at_L3 HR0_6.out x5_1 p102 q102
     cases e102
     replace hx102_0 := (HB.out.cell (Zh w _ hx102_0)).trans hx102_0
     have HR102_0 := Zma hi102_0
     have HC102_0 := Zma hl102_0
     clear hi102_0 hl102_0
     replace p102 := Zja p102
     replace q102 := Zja q102
     go_wp2
     go_ret2
     exact ⟨_, by first | rfl | (simp [errW_none, errW_some] <;> rfl) | (simp [*, errW_none, errW_some] <;> rfl), by first | exact Kd.R_nil _ _ _ _ _ | exact Kd.N_nil _ _ _ _ _ | exact Kd.V_nil _ _ _ _ _ | exact Kd.Q_nil _ _ _ _ _ | exact Kd.S_nil _ _ _ _ _, bq⟩
    rw [if_neg c5] at H
    have c5b0 : decide (70000 < ((rd_L3 l0_6 x5_1).length : Int)) = false := Zna c5
    have c5b1 : decide (70000 < (rd_L3 l0_6 x5_1).length) = false := Zna (by omega)
    clear c5
    by_cases c7 : a0_5 = true
    ·subst c7
     have H1 : ((psalteryref18_lace.f ((rd_L3 l0_6 x5_1).length : Int) (x5_1 == (wrap64 ((l0_6.length : Int) - 1)))).bind fun t104 => (if x4_1.length + t104.length < 140737488355328 then ((some (x4_1 ++ t104 : List Int)).bind fun y107 => (if (y107.length : Int) > 255 then (some (([] : List Int), false)) else (psalteryref18_Laces_raw.l0 k1 y107 (wrap64 (x5_1 + 1)) a0_0 a0_1 a0_2 a0_3 a0_4 true l0_6))) else (none))) = some (r1, r2) := by rw [if_pos rfl] at H; exact H
     clear H
     have H := H1
     clear H1
     replace H := Option.bind_eq_some_iff.mp H
     obtain ⟨t104, A80, H⟩ := H
     replace H : (if x4_1.length + t104.length < 140737488355328 then ((some (x4_1 ++ t104 : List Int)).bind fun y107 => (if (y107.length : Int) > 255 then (some (([] : List Int), false)) else (psalteryref18_Laces_raw.l0 k1 y107 (wrap64 (x5_1 + 1)) a0_0 a0_1 a0_2 a0_3 a0_4 true l0_6))) else (none)) = some (r1, r2) := H
     have A8 := Zma A80
     clear A80
     by_cases c9 : x4_1.length + t104.length < 140737488355328
     rotate_left
     ·rw [if_neg c9] at H
      exact absurd H (by simp)
     rw [if_pos c9] at H
     have LMc9 := Zma c9
     clear c9
     obtain ⟨y107, hy107⟩ : ∃ y_ : List Int, y_ = (x4_1 ++ t104) := ⟨_, rfl⟩
     replace H : (if (y107.length : Int) > 255 then (some (([] : List Int), false)) else (psalteryref18_Laces_raw.l0 k1 y107 (wrap64 (x5_1 + 1)) a0_0 a0_1 a0_2 a0_3 a0_4 true l0_6)) = some (r1, r2) := by first | (rw [hy107]; with_reducible exact H) | (have H2_ := (Zsa _ _).symm.trans H; rw [hy107]; with_reducible exact H2_) | (have H2_ := (Zsa _ _).symm.trans H; with_reducible exact H2_) | with_reducible exact H | (rw [hy107]; exact H) | exact H
     have Ny107 := Zma hy107
     clear hy107
     by_cases c10 : (y107.length : Int) > 255
     ·rw [if_pos c10] at H
      have c10b0 : decide (255 < (y107.length : Int)) = true := Zn c10
      have c10b1 : decide (255 < y107.length) = true := Zn (by omega)
      clear c10
      simp only [Zib, Zhb] at H
      obtain ⟨rfl, rfl⟩ := H
      obtain ⟨hcz11_0, hcz11_1, hcz11_2, hcz11_3, hcz11_4, hcz11_5, hcz11_6, hfz11_0, hfz11_1, hfz11_2, hfz11_3, hfz11_4, hfz11_5, hfz11_6⟩ := blk7 BK101.out
      have p102 : 0 ≤ (x5_1 : Int) := Zg (by first | (with_reducible assumption) | assumption)
      have q102 : x5_1 < (l0_6.length : Int) := Zg (by first | (with_reducible assumption) | assumption)
      obtain ⟨ad102, A102_0, c102_0, e102, hx102_0, hl102_0, hi102_0⟩ := at_L3 HR0_6.out x5_1 p102 q102
      cases e102
      replace hx102_0 := (HB.out.cell (Zh w _ hx102_0)).trans hx102_0
      have HR102_0 := Zma hi102_0
      have HC102_0 := Zma hl102_0
      clear hi102_0 hl102_0
      replace p102 := Zja p102
      replace q102 := Zja q102
      try go_wp2
      have n0_ := Zma (Zq HO_4.out)
      have n1_ := Zma (Zl BK101.out)
      have n2_ := Zma (Zla HB.out)
      clear HO_4 BK101 HB; have HO_4 := n0_; have BK101 := n1_; have HB := n2_; clear n0_ n1_ n2_
      have p103 : 0 ≤ (x5_1 : Int) := Zg (by first | (with_reducible assumption) | assumption)
      have q103 : x5_1 < (l0_6.length : Int) := Zg (by first | (with_reducible assumption) | assumption)
      obtain ⟨ad103, A103_0, c103_0, e103, hx103_0, hl103_0, hi103_0⟩ := at_L3 HR0_6.out x5_1 p103 q103
      have hw103_0 := hx103_0
      obtain rfl : ad102 = ad103 := (by injection e103)
      replace hx103_0 := (HB.out.cell (Zh w _ hx103_0)).trans hx103_0
      have HR103_0 := Zma hi103_0
      have HC103_0 := Zma hl103_0
      clear hi103_0 hl103_0
      replace p103 := Zja p103
      replace q103 := Zja q103
      refine start_ (n := 20) (S := fun w' => w'.cell? ⟨gb101, 0, none⟩ = some (.int .i64 a0_0) ∧ w'.cell? ⟨gb101, 1, none⟩ = some (.int .i64 a0_1) ∧ w'.cell? ⟨gb101, 2, none⟩ = some (.bool a0_2) ∧ w'.cell? ⟨gb101, 3, none⟩ = some (.bool a0_3) ∧ w'.cell? ⟨gb101, 4, none⟩ = some (.bool a0_4) ∧ w'.cell? ⟨gb101, 5, none⟩ = some (.bool true) ∧ w'.cell? ⟨gb101, 6, none⟩ = some (.slice (some ad102) l0_6.length c0_6) ∧ w'.cell? (ad102.add (x5_1).toNat) = some (.slice A103_0 (rd_L3 l0_6 x5_1).length c103_0)) (ds := []) #[ZF,ZF,ZF,ZF,ZF,ZF,ZF,ZF,ZF,ZF,ZF,ZF,ZF,ZF,ZF,ZF,ZF,ZF,ZF,ZF] (by kernel_rfl) rfl rfl ⟨(Zd BK101.out 0).trans rfl, (Zd BK101.out 1).trans rfl, (Zd BK101.out 2).trans rfl, (Zd BK101.out 3).trans rfl, (Zd BK101.out 4).trans rfl, (Zd BK101.out 5).trans rfl, (Zd BK101.out 6).trans rfl, ((HB.out.cell (Zh w _ hw103_0)).trans hw103_0)⟩ (fun hHeld => ?_); refine with_tabW psalteryref18_Laces_raw.tab7 psalteryref18_Laces_raw.bits7 (fun HT_ HW_ => ?_)
      generalize wr.drew = w12 at HO_4 BK101 HB HR103_0 hx103_0 hHeld ⊢
      refine p1 HT_ 0 20 ?_
      refine p1 HT_ 1 21 ?_
      refine p1 HT_ 3 23 ?_
      refine p1 HT_ 7 27 ?_
      refine p2 HT_ HW_ hHeld 2 22 ?_
      refine p1 HT_ 4 24 ?_
      refine p2 HT_ HW_ hHeld 5 25 ?_
      refine p1 HT_ 6 26 ?_
      refine p2 HT_ HW_ hHeld 8 28 ?_
      refine p1 HT_ 9 29 ?_
      refine p1 HT_ 10 30 ?_
      refine p1 HT_ 11 31 ?_
      refine p2 HT_ HW_ hHeld 12 32 ?_
      refine p1 HT_ 13 33 ?_
      refine p1 HT_ 14 34 ?_
      refine p1 HT_ 15 35 ?_
      refine p1 HT_ 16 36 ?_
      refine o1 HT_ 17 (some 37) (fun K hK => ?_)
      refine goes_ Try.func79 (by kernel_rfl) rfl #[.int .i64 ((rd_L3 l0_6 x5_1).length : Int), .bool (x5_1 == (wrap64 ((l0_6.length : Int) - 1)))] (by rfl) rfl rfl (by (try simp only [Zdb, Zeb, Zfb]); first | done | rfl | (simp only [Zha, Zga]; rfl)) ?_
      with_reducible refine (psalteryref18_lace.calls ((rd_L3 l0_6 x5_1).length : Int) (x5_1 == (wrap64 ((l0_6.length : Int) - 1))) t104 _ A8.out).mono ?_
      rintro e w13 ⟨v105, rfl, ho0, hb⟩
      refine ⟨_, rfl, ?_⟩
      have n0_ := Zma (Kd.R_elder' (rq HO_4.out) (Kd.R_base ho0) hb)
      have n1_ := Zma (Zxa (Kd.R_new' ho0 (Kd.R_lt (rq HO_4.out))) (Zfa bq))
      have n2_ := Zma (Zab (g := gb101) (o := .cells #[.int .i64 a0_0, .int .i64 a0_1, .bool a0_2, .bool a0_3, .bool a0_4, .bool true, .slice (some ad102) l0_6.length c0_6] 50 (0, 0)) (kq BK101.out) hb)
      have n3_ := Zma (Zoa bq hb)
      clear HO_4 BK101 HB; have HO_4 := n0_; have HO106 := n1_; have BK101 := n2_; have HB := n3_; clear n0_ n1_ n2_ n3_
      (try clear hb)
      (try clear ho0)
      obtain ⟨Ao15, co15, eo15⟩ := Kd.R_slice HO106.out
      (first | subst eo15 | (injection eo15 with f1_ f2_ f3_; have f4_ := f1_.symm; have f5_ := f3_.symm; clear f1_ f2_ f3_; subst f4_; subst f5_))
      refine hK.out _ _ ⟨(Zd BK101.out 0).trans rfl, (Zd BK101.out 1).trans rfl, (Zd BK101.out 2).trans rfl, (Zd BK101.out 3).trans rfl, (Zd BK101.out 4).trans rfl, (Zd BK101.out 5).trans rfl, (Zd BK101.out 6).trans rfl, ((HB.out.cell (Zh w _ hw103_0)).trans hw103_0)⟩ (fun hHeld => ?_)
      clear hK K
      refine n1 37 ?_
      refine o1 HT_ 18 (some 38) (fun K hK => ?_)
      refine Kd.R_append_rows_step (Kd.int .u8) (w0 := w) w.heap.size (by rfl) (.tmp 20) (.tmp 37) 28 5 (.int .u8 0) 1 rfl Try.underlying28 info5 rfl (by decide) (by omega) u4 x4_1 t104 _ _ _ (fun k_ => some k_ ≠ (.slice Ao15 t104.length co15 : Value).ownBlock) (fun _ => False) rfl rfl ?aO ?aR (fun _ _ h => h) (fun _ h => h.elim) ?aF ?aB ?aS ?aL ?_
      (case aR => exact cq ((Zkb HO106.out).2.2))
      (case aB => exact bq)
      (case aF => exact (fun k_ hk => Kd.fresh' (Kd.R_lt (rq HO106.out)) k_ hk))
      (case aO => exact (by refine rq ?_; exact Kd.R_mono HO_4.out (fun _ hk => hk.2)))
      (case aS => exact (Zfa bq))
      (case aL => have := LMc9.out; omega)
      intro v108 w14 ho hb hg hat
      rw [← Ny107.out] at ho
      have n0_ := Zma (blk_grown (g := gb101) (o := .cells #[.int .i64 a0_0, .int .i64 a0_1, .bool a0_2, .bool a0_3, .bool a0_4, .bool true, .slice (some ad102) l0_6.length c0_6] 50 (0, 0)) (kq BK101.out) hg (Kd.R_ne HO_4.out BK101.out (by decide)))
      have n1_ := Zma (Kd.R_after (ok := (fun _ => True)) (rq HO106.out) hg hat)
      have n2_ := Zma (hb)
      have n3_ := Zma (ho)
      clear BK101 HO106 HB HO_4; have BK101 := n0_; have HO106 := n1_; have HB := n2_; have HO109 := n3_; clear n0_ n1_ n2_ n3_ ho hb hg hat
      refine hK.out _ _ ⟨(Zd BK101.out 0).trans rfl, (Zd BK101.out 1).trans rfl, (Zd BK101.out 2).trans rfl, (Zd BK101.out 3).trans rfl, (Zd BK101.out 4).trans rfl, (Zd BK101.out 5).trans rfl, (Zd BK101.out 6).trans rfl, ((HB.out.cell (Zh w _ hw103_0)).trans hw103_0)⟩ (fun hHeld => ?_)
      clear hK K
      refine n1 38 ?_
      refine p1 HT_ 19 4 ?_
      refine done_ (done_of HT_.out (by kernel_rfl)) ?_
      obtain ⟨Ao16, co16, eo16⟩ := Kd.R_slice HO109.out
      subst eo16
      try go_wp2
      go_ret2
      exact ⟨_, by first | rfl | (simp [errW_none, errW_some] <;> rfl) | (simp [*, errW_none, errW_some] <;> rfl), by first | exact Kd.R_nil _ _ _ _ _ | exact Kd.N_nil _ _ _ _ _ | exact Kd.V_nil _ _ _ _ _ | exact Kd.Q_nil _ _ _ _ _ | exact Kd.S_nil _ _ _ _ _, bq⟩
     rw [if_neg c10] at H
     have c10b0 : decide (255 < (y107.length : Int)) = false := Zna c10
     have c10b1 : decide (255 < y107.length) = false := Zna (by omega)
     clear c10
     have H' := Zma H
     clear H
     obtain ⟨hcz17_0, hcz17_1, hcz17_2, hcz17_3, hcz17_4, hcz17_5, hcz17_6, hfz17_0, hfz17_1, hfz17_2, hfz17_3, hfz17_4, hfz17_5, hfz17_6⟩ := blk7 BK101.out
     have p102 : 0 ≤ (x5_1 : Int) := Zg (by first | (with_reducible assumption) | assumption)
     have q102 : x5_1 < (l0_6.length : Int) := Zg (by first | (with_reducible assumption) | assumption)
     obtain ⟨ad102, A102_0, c102_0, e102, hx102_0, hl102_0, hi102_0⟩ := at_L3 HR0_6.out x5_1 p102 q102
     cases e102
     replace hx102_0 := (HB.out.cell (Zh w _ hx102_0)).trans hx102_0
     have HR102_0 := Zma hi102_0
     have HC102_0 := Zma hl102_0
     clear hi102_0 hl102_0
     replace p102 := Zja p102
     replace q102 := Zja q102
     try go_wp2
     have n0_ := Zma (Zq HO_4.out)
     have n1_ := Zma (Zl BK101.out)
     have n2_ := Zma (Zla HB.out)
     clear HO_4 BK101 HB; have HO_4 := n0_; have BK101 := n1_; have HB := n2_; clear n0_ n1_ n2_
     have p103 : 0 ≤ (x5_1 : Int) := Zg (by first | (with_reducible assumption) | assumption)
     have q103 : x5_1 < (l0_6.length : Int) := Zg (by first | (with_reducible assumption) | assumption)
     obtain ⟨ad103, A103_0, c103_0, e103, hx103_0, hl103_0, hi103_0⟩ := at_L3 HR0_6.out x5_1 p103 q103
     have hw103_0 := hx103_0
     obtain rfl : ad102 = ad103 := (by injection e103)
     replace hx103_0 := (HB.out.cell (Zh w _ hx103_0)).trans hx103_0
     have HR103_0 := Zma hi103_0
     have HC103_0 := Zma hl103_0
     clear hi103_0 hl103_0
     replace p103 := Zja p103
     replace q103 := Zja q103
     refine start_ (n := 20) (S := fun w' => w'.cell? ⟨gb101, 0, none⟩ = some (.int .i64 a0_0) ∧ w'.cell? ⟨gb101, 1, none⟩ = some (.int .i64 a0_1) ∧ w'.cell? ⟨gb101, 2, none⟩ = some (.bool a0_2) ∧ w'.cell? ⟨gb101, 3, none⟩ = some (.bool a0_3) ∧ w'.cell? ⟨gb101, 4, none⟩ = some (.bool a0_4) ∧ w'.cell? ⟨gb101, 5, none⟩ = some (.bool true) ∧ w'.cell? ⟨gb101, 6, none⟩ = some (.slice (some ad102) l0_6.length c0_6) ∧ w'.cell? (ad102.add (x5_1).toNat) = some (.slice A103_0 (rd_L3 l0_6 x5_1).length c103_0)) (ds := []) #[ZF,ZF,ZF,ZF,ZF,ZF,ZF,ZF,ZF,ZF,ZF,ZF,ZF,ZF,ZF,ZF,ZF,ZF,ZF,ZF] (by kernel_rfl) rfl rfl ⟨(Zd BK101.out 0).trans rfl, (Zd BK101.out 1).trans rfl, (Zd BK101.out 2).trans rfl, (Zd BK101.out 3).trans rfl, (Zd BK101.out 4).trans rfl, (Zd BK101.out 5).trans rfl, (Zd BK101.out 6).trans rfl, ((HB.out.cell (Zh w _ hw103_0)).trans hw103_0)⟩ (fun hHeld => ?_); refine with_tabW psalteryref18_Laces_raw.tab7 psalteryref18_Laces_raw.bits7 (fun HT_ HW_ => ?_)
     generalize wr.drew = w18 at HO_4 BK101 HB HR103_0 hx103_0 hHeld ⊢
     refine p1 HT_ 0 20 ?_
     refine p1 HT_ 1 21 ?_
     refine p1 HT_ 3 23 ?_
     refine p1 HT_ 7 27 ?_
     refine p2 HT_ HW_ hHeld 2 22 ?_
     refine p1 HT_ 4 24 ?_
     refine p2 HT_ HW_ hHeld 5 25 ?_
     refine p1 HT_ 6 26 ?_
     refine p2 HT_ HW_ hHeld 8 28 ?_
     refine p1 HT_ 9 29 ?_
     refine p1 HT_ 10 30 ?_
     refine p1 HT_ 11 31 ?_
     refine p2 HT_ HW_ hHeld 12 32 ?_
     refine p1 HT_ 13 33 ?_
     refine p1 HT_ 14 34 ?_
     refine p1 HT_ 15 35 ?_
     refine p1 HT_ 16 36 ?_
     refine o1 HT_ 17 (some 37) (fun K hK => ?_)
     refine goes_ Try.func79 (by kernel_rfl) rfl #[.int .i64 ((rd_L3 l0_6 x5_1).length : Int), .bool (x5_1 == (wrap64 ((l0_6.length : Int) - 1)))] (by rfl) rfl rfl (by (try simp only [Zdb, Zeb, Zfb]); first | done | rfl | (simp only [Zha, Zga]; rfl)) ?_
     with_reducible refine (psalteryref18_lace.calls ((rd_L3 l0_6 x5_1).length : Int) (x5_1 == (wrap64 ((l0_6.length : Int) - 1))) t104 _ A8.out).mono ?_
     rintro e w19 ⟨v105, rfl, ho0, hb⟩
     refine ⟨_, rfl, ?_⟩
     have n0_ := Zma (Kd.R_elder' (rq HO_4.out) (Kd.R_base ho0) hb)
     have n1_ := Zma (Zxa (Kd.R_new' ho0 (Kd.R_lt (rq HO_4.out))) (Zfa bq))
     have n2_ := Zma (Zab (g := gb101) (o := .cells #[.int .i64 a0_0, .int .i64 a0_1, .bool a0_2, .bool a0_3, .bool a0_4, .bool true, .slice (some ad102) l0_6.length c0_6] 50 (0, 0)) (kq BK101.out) hb)
     have n3_ := Zma (Zoa bq hb)
     clear HO_4 BK101 HB; have HO_4 := n0_; have HO106 := n1_; have BK101 := n2_; have HB := n3_; clear n0_ n1_ n2_ n3_
     (try clear hb)
     (try clear ho0)
     obtain ⟨Ao21, co21, eo21⟩ := Kd.R_slice HO106.out
     (first | subst eo21 | (injection eo21 with f1_ f2_ f3_; have f4_ := f1_.symm; have f5_ := f3_.symm; clear f1_ f2_ f3_; subst f4_; subst f5_))
     refine hK.out _ _ ⟨(Zd BK101.out 0).trans rfl, (Zd BK101.out 1).trans rfl, (Zd BK101.out 2).trans rfl, (Zd BK101.out 3).trans rfl, (Zd BK101.out 4).trans rfl, (Zd BK101.out 5).trans rfl, (Zd BK101.out 6).trans rfl, ((HB.out.cell (Zh w _ hw103_0)).trans hw103_0)⟩ (fun hHeld => ?_)
     clear hK K
     refine n1 37 ?_
     refine o1 HT_ 18 (some 38) (fun K hK => ?_)
     refine Kd.R_append_rows_step (Kd.int .u8) (w0 := w) w.heap.size (by rfl) (.tmp 20) (.tmp 37) 28 5 (.int .u8 0) 1 rfl Try.underlying28 info5 rfl (by decide) (by omega) u4 x4_1 t104 _ _ _ (fun k_ => some k_ ≠ (.slice Ao21 t104.length co21 : Value).ownBlock) (fun _ => False) rfl rfl ?aO ?aR (fun _ _ h => h) (fun _ h => h.elim) ?aF ?aB ?aS ?aL ?_
     (case aR => exact cq ((Zkb HO106.out).2.2))
     (case aB => exact bq)
     (case aF => exact (fun k_ hk => Kd.fresh' (Kd.R_lt (rq HO106.out)) k_ hk))
     (case aO => exact (by refine rq ?_; exact Kd.R_mono HO_4.out (fun _ hk => hk.2)))
     (case aS => exact (Zfa bq))
     (case aL => have := LMc9.out; omega)
     intro v108 w20 ho hb hg hat
     rw [← Ny107.out] at ho
     have n0_ := Zma (blk_grown (g := gb101) (o := .cells #[.int .i64 a0_0, .int .i64 a0_1, .bool a0_2, .bool a0_3, .bool a0_4, .bool true, .slice (some ad102) l0_6.length c0_6] 50 (0, 0)) (kq BK101.out) hg (Kd.R_ne HO_4.out BK101.out (by decide)))
     have n1_ := Zma (Kd.R_after (ok := (fun _ => True)) (rq HO106.out) hg hat)
     have n2_ := Zma (hb)
     have n3_ := Zma (ho)
     clear BK101 HO106 HB HO_4; have BK101 := n0_; have HO106 := n1_; have HB := n2_; have HO109 := n3_; clear n0_ n1_ n2_ n3_ ho hb hg hat
     refine hK.out _ _ ⟨(Zd BK101.out 0).trans rfl, (Zd BK101.out 1).trans rfl, (Zd BK101.out 2).trans rfl, (Zd BK101.out 3).trans rfl, (Zd BK101.out 4).trans rfl, (Zd BK101.out 5).trans rfl, (Zd BK101.out 6).trans rfl, ((HB.out.cell (Zh w _ hw103_0)).trans hw103_0)⟩ (fun hHeld => ?_)
     clear hK K
     refine n1 38 ?_
     refine p1 HT_ 19 4 ?_
     refine done_ (done_of HT_.out (by kernel_rfl)) ?_
     obtain ⟨Ao22, co22, eo22⟩ := Kd.R_slice HO109.out
     subst eo22
     try go_wp2
     go_roundg k1
     case measure => have := HK1.out; omega
     case rel => exact ⟨(y107), (wrap64 (x5_1 + 1)), (by first | rfl | (simp; done) | (simp [*]; done)), H', ⟨by have := HK1.out; omega⟩, ⟨by refine rq ?_; exact Kd.R_mono HO109.out (fun _ hk => trivial)⟩, ⟨kq BK101.out⟩, ⟨bq⟩⟩
    replace c7 := Bool.eq_false_iff.mpr c7
    subst c7
    have H1 : ((psalteryref18_lace.f ((rd_L3 l0_6 x5_1).length : Int) false).bind fun t110 => (if x4_1.length + t110.length < 140737488355328 then ((some (x4_1 ++ t110 : List Int)).bind fun y113 => (if (y113.length : Int) > 255 then (some (([] : List Int), false)) else (psalteryref18_Laces_raw.l0 k1 y113 (wrap64 (x5_1 + 1)) a0_0 a0_1 a0_2 a0_3 a0_4 false l0_6))) else (none))) = some (r1, r2) := by rw [if_neg (show ¬ (false = true) by decide)] at H; exact H
    clear H
    have H := H1
    clear H1
    replace H := Option.bind_eq_some_iff.mp H
    obtain ⟨t110, A230, H⟩ := H
    replace H : (if x4_1.length + t110.length < 140737488355328 then ((some (x4_1 ++ t110 : List Int)).bind fun y113 => (if (y113.length : Int) > 255 then (some (([] : List Int), false)) else (psalteryref18_Laces_raw.l0 k1 y113 (wrap64 (x5_1 + 1)) a0_0 a0_1 a0_2 a0_3 a0_4 false l0_6))) else (none)) = some (r1, r2) := H
    have A23 := Zma A230
    clear A230
    by_cases c24 : x4_1.length + t110.length < 140737488355328
    rotate_left
    ·rw [if_neg c24] at H
     exact absurd H (by simp)
    rw [if_pos c24] at H
    have LMc24 := Zma c24
    clear c24
    obtain ⟨y113, hy113⟩ : ∃ y_ : List Int, y_ = (x4_1 ++ t110) := ⟨_, rfl⟩
    replace H : (if (y113.length : Int) > 255 then (some (([] : List Int), false)) else (psalteryref18_Laces_raw.l0 k1 y113 (wrap64 (x5_1 + 1)) a0_0 a0_1 a0_2 a0_3 a0_4 false l0_6)) = some (r1, r2) := by first | (rw [hy113]; with_reducible exact H) | (have H2_ := (Zsa _ _).symm.trans H; rw [hy113]; with_reducible exact H2_) | (have H2_ := (Zsa _ _).symm.trans H; with_reducible exact H2_) | with_reducible exact H | (rw [hy113]; exact H) | exact H
    have Ny113 := Zma hy113
    clear hy113
    by_cases c25 : (y113.length : Int) > 255
    ·rw [if_pos c25] at H
     have c25b0 : decide (255 < (y113.length : Int)) = true := Zn c25
     have c25b1 : decide (255 < y113.length) = true := Zn (by omega)
     clear c25
     simp only [Zib, Zhb] at H
     obtain ⟨rfl, rfl⟩ := H
     obtain ⟨hcz26_0, hcz26_1, hcz26_2, hcz26_3, hcz26_4, hcz26_5, hcz26_6, hfz26_0, hfz26_1, hfz26_2, hfz26_3, hfz26_4, hfz26_5, hfz26_6⟩ := blk7 BK101.out
     have p102 : 0 ≤ (x5_1 : Int) := Zg (by first | (with_reducible assumption) | assumption)
     have q102 : x5_1 < (l0_6.length : Int) := Zg (by first | (with_reducible assumption) | assumption)
     obtain ⟨ad102, A102_0, c102_0, e102, hx102_0, hl102_0, hi102_0⟩ := at_L3 HR0_6.out x5_1 p102 q102
     cases e102
     replace hx102_0 := (HB.out.cell (Zh w _ hx102_0)).trans hx102_0
     have HR102_0 := Zma hi102_0
     have HC102_0 := Zma hl102_0
     clear hi102_0 hl102_0
     replace p102 := Zja p102
     replace q102 := Zja q102
     try go_wp2
     have n0_ := Zma (Zq HO_4.out)
     have n1_ := Zma (Zl BK101.out)
     have n2_ := Zma (Zla HB.out)
     clear HO_4 BK101 HB; have HO_4 := n0_; have BK101 := n1_; have HB := n2_; clear n0_ n1_ n2_
     have p103 : 0 ≤ (x5_1 : Int) := Zg (by first | (with_reducible assumption) | assumption)
     have q103 : x5_1 < (l0_6.length : Int) := Zg (by first | (with_reducible assumption) | assumption)
     obtain ⟨ad103, A103_0, c103_0, e103, hx103_0, hl103_0, hi103_0⟩ := at_L3 HR0_6.out x5_1 p103 q103
     have hw103_0 := hx103_0
     obtain rfl : ad102 = ad103 := (by injection e103)
     replace hx103_0 := (HB.out.cell (Zh w _ hx103_0)).trans hx103_0
     have HR103_0 := Zma hi103_0
     have HC103_0 := Zma hl103_0
     clear hi103_0 hl103_0
     replace p103 := Zja p103
     replace q103 := Zja q103
     refine start_ (n := 20) (S := fun w' => w'.cell? ⟨gb101, 0, none⟩ = some (.int .i64 a0_0) ∧ w'.cell? ⟨gb101, 1, none⟩ = some (.int .i64 a0_1) ∧ w'.cell? ⟨gb101, 2, none⟩ = some (.bool a0_2) ∧ w'.cell? ⟨gb101, 3, none⟩ = some (.bool a0_3) ∧ w'.cell? ⟨gb101, 4, none⟩ = some (.bool a0_4) ∧ w'.cell? ⟨gb101, 5, none⟩ = some (.bool false) ∧ w'.cell? ⟨gb101, 6, none⟩ = some (.slice (some ad102) l0_6.length c0_6) ∧ w'.cell? (ad102.add (x5_1).toNat) = some (.slice A103_0 (rd_L3 l0_6 x5_1).length c103_0)) (ds := []) #[ZF,ZF,ZF,ZF,ZF,ZF,ZF,ZF,ZF,ZF,ZF,ZF,ZF,ZF,ZF,ZF,ZF,ZF,ZF,ZF] (by kernel_rfl) rfl rfl ⟨(Zd BK101.out 0).trans rfl, (Zd BK101.out 1).trans rfl, (Zd BK101.out 2).trans rfl, (Zd BK101.out 3).trans rfl, (Zd BK101.out 4).trans rfl, (Zd BK101.out 5).trans rfl, (Zd BK101.out 6).trans rfl, ((HB.out.cell (Zh w _ hw103_0)).trans hw103_0)⟩ (fun hHeld => ?_); refine with_tabW psalteryref18_Laces_raw.tab7 psalteryref18_Laces_raw.bits7 (fun HT_ HW_ => ?_)
     generalize wr.drew = w27 at HO_4 BK101 HB HR103_0 hx103_0 hHeld ⊢
     refine p1 HT_ 0 20 ?_
     refine p1 HT_ 1 21 ?_
     refine p1 HT_ 3 23 ?_
     refine p1 HT_ 7 27 ?_
     refine p2 HT_ HW_ hHeld 2 22 ?_
     refine p1 HT_ 4 24 ?_
     refine p2 HT_ HW_ hHeld 5 25 ?_
     refine p1 HT_ 6 26 ?_
     refine p2 HT_ HW_ hHeld 8 28 ?_
     refine p1 HT_ 9 29 ?_
     refine pure_ (i := 10) (N := some 30) (v := undef) (a' := ?_) #[ZT,ZT,ZT,ZT,ZT,ZT,ZT,ZT,ZT,ZT,ZT,ZF,ZF,ZF,ZF,ZF,ZF,ZF,ZF,ZF] rfl rfl (any_of HT_.out (by kernel_rfl)) (fun _ _ _ h => h) (Or.inr ⟨by rfl, rfl⟩) ?_ ?_
     rotate_left
     ·simp only [Act.put, Za, Zb, Zc, i64_w, i32_w]
      rfl
     refine pure_ (i := 11) (N := some 31) (v := undef) (a' := ?_) #[ZT,ZT,ZT,ZT,ZT,ZT,ZT,ZT,ZT,ZT,ZT,ZT,ZF,ZF,ZF,ZF,ZF,ZF,ZF,ZF] rfl rfl (any_of HT_.out (by kernel_rfl)) (fun _ _ _ h => h) (Or.inr ⟨by rfl, rfl⟩) ?_ ?_
     rotate_left
     ·simp only [Act.put, Za, Zb, Zc, i64_w, i32_w]
      rfl
     refine pure_ (i := 12) (N := some 32) (v := undef) (a' := ?_) #[ZT,ZT,ZT,ZT,ZT,ZT,ZT,ZT,ZT,ZT,ZT,ZT,ZT,ZF,ZF,ZF,ZF,ZF,ZF,ZF] rfl rfl (any_of HT_.out (by kernel_rfl)) (fun _ _ _ h => h) (Or.inr ⟨by rfl, rfl⟩) ?_ ?_
     rotate_left
     ·simp only [Act.put, Za, Zb, Zc, i64_w, i32_w]
      rfl
     refine pure_ (i := 13) (N := some 33) (v := undef) (a' := ?_) #[ZT,ZT,ZT,ZT,ZT,ZT,ZT,ZT,ZT,ZT,ZT,ZT,ZT,ZT,ZF,ZF,ZF,ZF,ZF,ZF] rfl rfl (any_of HT_.out (by kernel_rfl)) (fun _ _ _ h => h) (Or.inr ⟨by rfl, rfl⟩) ?_ ?_
     rotate_left
     ·simp only [Act.put, Za, Zb, Zc, i64_w, i32_w]
      rfl
     refine pure_ (i := 14) (N := some 34) (v := undef) (a' := ?_) #[ZT,ZT,ZT,ZT,ZT,ZT,ZT,ZT,ZT,ZT,ZT,ZT,ZT,ZT,ZT,ZF,ZF,ZF,ZF,ZF] rfl rfl (any_of HT_.out (by kernel_rfl)) (fun _ _ _ h => h) (Or.inr ⟨by rfl, rfl⟩) ?_ ?_
     rotate_left
     ·simp only [Act.put, Za, Zb, Zc, i64_w, i32_w]
      rfl
     refine pure_ (i := 15) (N := some 35) (v := undef) (a' := ?_) #[ZT,ZT,ZT,ZT,ZT,ZT,ZT,ZT,ZT,ZT,ZT,ZT,ZT,ZT,ZT,ZT,ZF,ZF,ZF,ZF] rfl rfl (any_of HT_.out (by kernel_rfl)) (fun _ _ _ h => h) (Or.inr ⟨by rfl, rfl⟩) ?_ ?_
     rotate_left
     ·simp only [Act.put, Za, Zb, Zc, i64_w, i32_w]
      rfl
     refine p1 HT_ 16 36 ?_
     refine o1 HT_ 17 (some 37) (fun K hK => ?_)
     refine goes_ Try.func79 (by kernel_rfl) rfl #[.int .i64 ((rd_L3 l0_6 x5_1).length : Int), .bool false] (by rfl) rfl rfl (by (try simp only [Zdb, Zeb, Zfb]); first | done | rfl | (simp only [Zha, Zga]; rfl)) ?_
     with_reducible refine (psalteryref18_lace.calls ((rd_L3 l0_6 x5_1).length : Int) false t110 _ A23.out).mono ?_
     rintro e w28 ⟨v111, rfl, ho0, hb⟩
     refine ⟨_, rfl, ?_⟩
     have n0_ := Zma (Kd.R_elder' (rq HO_4.out) (Kd.R_base ho0) hb)
     have n1_ := Zma (Zxa (Kd.R_new' ho0 (Kd.R_lt (rq HO_4.out))) (Zfa bq))
     have n2_ := Zma (Zab (g := gb101) (o := .cells #[.int .i64 a0_0, .int .i64 a0_1, .bool a0_2, .bool a0_3, .bool a0_4, .bool false, .slice (some ad102) l0_6.length c0_6] 50 (0, 0)) (kq BK101.out) hb)
     have n3_ := Zma (Zoa bq hb)
     clear HO_4 BK101 HB; have HO_4 := n0_; have HO112 := n1_; have BK101 := n2_; have HB := n3_; clear n0_ n1_ n2_ n3_
     (try clear hb)
     (try clear ho0)
     obtain ⟨Ao30, co30, eo30⟩ := Kd.R_slice HO112.out
     (first | subst eo30 | (injection eo30 with f1_ f2_ f3_; have f4_ := f1_.symm; have f5_ := f3_.symm; clear f1_ f2_ f3_; subst f4_; subst f5_))
     refine hK.out _ _ ⟨(Zd BK101.out 0).trans rfl, (Zd BK101.out 1).trans rfl, (Zd BK101.out 2).trans rfl, (Zd BK101.out 3).trans rfl, (Zd BK101.out 4).trans rfl, (Zd BK101.out 5).trans rfl, (Zd BK101.out 6).trans rfl, ((HB.out.cell (Zh w _ hw103_0)).trans hw103_0)⟩ (fun hHeld => ?_)
     clear hK K
     refine n1 37 ?_
     refine o1 HT_ 18 (some 38) (fun K hK => ?_)
     refine Kd.R_append_rows_step (Kd.int .u8) (w0 := w) w.heap.size (by rfl) (.tmp 20) (.tmp 37) 28 5 (.int .u8 0) 1 rfl Try.underlying28 info5 rfl (by decide) (by omega) u4 x4_1 t110 _ _ _ (fun k_ => some k_ ≠ (.slice Ao30 t110.length co30 : Value).ownBlock) (fun _ => False) rfl rfl ?aO ?aR (fun _ _ h => h) (fun _ h => h.elim) ?aF ?aB ?aS ?aL ?_
     (case aR => exact cq ((Zkb HO112.out).2.2))
     (case aB => exact bq)
     (case aF => exact (fun k_ hk => Kd.fresh' (Kd.R_lt (rq HO112.out)) k_ hk))
     (case aO => exact (by refine rq ?_; exact Kd.R_mono HO_4.out (fun _ hk => hk.2)))
     (case aS => exact (Zfa bq))
     (case aL => have := LMc24.out; omega)
     intro v114 w29 ho hb hg hat
     rw [← Ny113.out] at ho
     have n0_ := Zma (blk_grown (g := gb101) (o := .cells #[.int .i64 a0_0, .int .i64 a0_1, .bool a0_2, .bool a0_3, .bool a0_4, .bool false, .slice (some ad102) l0_6.length c0_6] 50 (0, 0)) (kq BK101.out) hg (Kd.R_ne HO_4.out BK101.out (by decide)))
     have n1_ := Zma (Kd.R_after (ok := (fun _ => True)) (rq HO112.out) hg hat)
     have n2_ := Zma (hb)
     have n3_ := Zma (ho)
     clear BK101 HO112 HB HO_4; have BK101 := n0_; have HO112 := n1_; have HB := n2_; have HO115 := n3_; clear n0_ n1_ n2_ n3_ ho hb hg hat
     refine hK.out _ _ ⟨(Zd BK101.out 0).trans rfl, (Zd BK101.out 1).trans rfl, (Zd BK101.out 2).trans rfl, (Zd BK101.out 3).trans rfl, (Zd BK101.out 4).trans rfl, (Zd BK101.out 5).trans rfl, (Zd BK101.out 6).trans rfl, ((HB.out.cell (Zh w _ hw103_0)).trans hw103_0)⟩ (fun hHeld => ?_)
     clear hK K
     refine n1 38 ?_
     refine p1 HT_ 19 4 ?_
     refine done_ (done_of HT_.out (by kernel_rfl)) ?_
     obtain ⟨Ao31, co31, eo31⟩ := Kd.R_slice HO115.out
     subst eo31
     try go_wp2
     go_ret2
     exact ⟨_, by first | rfl | (simp [errW_none, errW_some] <;> rfl) | (simp [*, errW_none, errW_some] <;> rfl), by first | exact Kd.R_nil _ _ _ _ _ | exact Kd.N_nil _ _ _ _ _ | exact Kd.V_nil _ _ _ _ _ | exact Kd.Q_nil _ _ _ _ _ | exact Kd.S_nil _ _ _ _ _, bq⟩
    rw [if_neg c25] at H
    have c25b0 : decide (255 < (y113.length : Int)) = false := Zna c25
    have c25b1 : decide (255 < y113.length) = false := Zna (by omega)
    clear c25
    have H' := Zma H
    clear H
    obtain ⟨hcz32_0, hcz32_1, hcz32_2, hcz32_3, hcz32_4, hcz32_5, hcz32_6, hfz32_0, hfz32_1, hfz32_2, hfz32_3, hfz32_4, hfz32_5, hfz32_6⟩ := blk7 BK101.out
    have p102 : 0 ≤ (x5_1 : Int) := Zg (by first | (with_reducible assumption) | assumption)
    have q102 : x5_1 < (l0_6.length : Int) := Zg (by first | (with_reducible assumption) | assumption)
    obtain ⟨ad102, A102_0, c102_0, e102, hx102_0, hl102_0, hi102_0⟩ := at_L3 HR0_6.out x5_1 p102 q102
    cases e102
    replace hx102_0 := (HB.out.cell (Zh w _ hx102_0)).trans hx102_0
    have HR102_0 := Zma hi102_0
    have HC102_0 := Zma hl102_0
    clear hi102_0 hl102_0
    replace p102 := Zja p102
    replace q102 := Zja q102
    try go_wp2
    have n0_ := Zma (Zq HO_4.out)
    have n1_ := Zma (Zl BK101.out)
    have n2_ := Zma (Zla HB.out)
    clear HO_4 BK101 HB; have HO_4 := n0_; have BK101 := n1_; have HB := n2_; clear n0_ n1_ n2_
    have p103 : 0 ≤ (x5_1 : Int) := Zg (by first | (with_reducible assumption) | assumption)
    have q103 : x5_1 < (l0_6.length : Int) := Zg (by first | (with_reducible assumption) | assumption)
    obtain ⟨ad103, A103_0, c103_0, e103, hx103_0, hl103_0, hi103_0⟩ := at_L3 HR0_6.out x5_1 p103 q103
    have hw103_0 := hx103_0
    obtain rfl : ad102 = ad103 := (by injection e103)
    replace hx103_0 := (HB.out.cell (Zh w _ hx103_0)).trans hx103_0
    have HR103_0 := Zma hi103_0
    have HC103_0 := Zma hl103_0
    clear hi103_0 hl103_0
    replace p103 := Zja p103
    replace q103 := Zja q103
    refine start_ (n := 20) (S := fun w' => w'.cell? ⟨gb101, 0, none⟩ = some (.int .i64 a0_0) ∧ w'.cell? ⟨gb101, 1, none⟩ = some (.int .i64 a0_1) ∧ w'.cell? ⟨gb101, 2, none⟩ = some (.bool a0_2) ∧ w'.cell? ⟨gb101, 3, none⟩ = some (.bool a0_3) ∧ w'.cell? ⟨gb101, 4, none⟩ = some (.bool a0_4) ∧ w'.cell? ⟨gb101, 5, none⟩ = some (.bool false) ∧ w'.cell? ⟨gb101, 6, none⟩ = some (.slice (some ad102) l0_6.length c0_6) ∧ w'.cell? (ad102.add (x5_1).toNat) = some (.slice A103_0 (rd_L3 l0_6 x5_1).length c103_0)) (ds := []) #[ZF,ZF,ZF,ZF,ZF,ZF,ZF,ZF,ZF,ZF,ZF,ZF,ZF,ZF,ZF,ZF,ZF,ZF,ZF,ZF] (by kernel_rfl) rfl rfl ⟨(Zd BK101.out 0).trans rfl, (Zd BK101.out 1).trans rfl, (Zd BK101.out 2).trans rfl, (Zd BK101.out 3).trans rfl, (Zd BK101.out 4).trans rfl, (Zd BK101.out 5).trans rfl, (Zd BK101.out 6).trans rfl, ((HB.out.cell (Zh w _ hw103_0)).trans hw103_0)⟩ (fun hHeld => ?_); refine with_tabW psalteryref18_Laces_raw.tab7 psalteryref18_Laces_raw.bits7 (fun HT_ HW_ => ?_)
    generalize wr.drew = w33 at HO_4 BK101 HB HR103_0 hx103_0 hHeld ⊢
    refine p1 HT_ 0 20 ?_
    refine p1 HT_ 1 21 ?_
    refine p1 HT_ 3 23 ?_
    refine p1 HT_ 7 27 ?_
    refine p2 HT_ HW_ hHeld 2 22 ?_
    refine p1 HT_ 4 24 ?_
    refine p2 HT_ HW_ hHeld 5 25 ?_
    refine p1 HT_ 6 26 ?_
    refine p2 HT_ HW_ hHeld 8 28 ?_
    refine p1 HT_ 9 29 ?_
    refine pure_ (i := 10) (N := some 30) (v := undef) (a' := ?_) #[ZT,ZT,ZT,ZT,ZT,ZT,ZT,ZT,ZT,ZT,ZT,ZF,ZF,ZF,ZF,ZF,ZF,ZF,ZF,ZF] rfl rfl (any_of HT_.out (by kernel_rfl)) (fun _ _ _ h => h) (Or.inr ⟨by rfl, rfl⟩) ?_ ?_
    rotate_left
    ·simp only [Act.put, Za, Zb, Zc, i64_w, i32_w]
     rfl
    refine pure_ (i := 11) (N := some 31) (v := undef) (a' := ?_) #[ZT,ZT,ZT,ZT,ZT,ZT,ZT,ZT,ZT,ZT,ZT,ZT,ZF,ZF,ZF,ZF,ZF,ZF,ZF,ZF] rfl rfl (any_of HT_.out (by kernel_rfl)) (fun _ _ _ h => h) (Or.inr ⟨by rfl, rfl⟩) ?_ ?_
    rotate_left
    ·simp only [Act.put, Za, Zb, Zc, i64_w, i32_w]
     rfl
    refine pure_ (i := 12) (N := some 32) (v := undef) (a' := ?_) #[ZT,ZT,ZT,ZT,ZT,ZT,ZT,ZT,ZT,ZT,ZT,ZT,ZT,ZF,ZF,ZF,ZF,ZF,ZF,ZF] rfl rfl (any_of HT_.out (by kernel_rfl)) (fun _ _ _ h => h) (Or.inr ⟨by rfl, rfl⟩) ?_ ?_
    rotate_left
    ·simp only [Act.put, Za, Zb, Zc, i64_w, i32_w]
     rfl
    refine pure_ (i := 13) (N := some 33) (v := undef) (a' := ?_) #[ZT,ZT,ZT,ZT,ZT,ZT,ZT,ZT,ZT,ZT,ZT,ZT,ZT,ZT,ZF,ZF,ZF,ZF,ZF,ZF] rfl rfl (any_of HT_.out (by kernel_rfl)) (fun _ _ _ h => h) (Or.inr ⟨by rfl, rfl⟩) ?_ ?_
    rotate_left
    ·simp only [Act.put, Za, Zb, Zc, i64_w, i32_w]
     rfl
    refine pure_ (i := 14) (N := some 34) (v := undef) (a' := ?_) #[ZT,ZT,ZT,ZT,ZT,ZT,ZT,ZT,ZT,ZT,ZT,ZT,ZT,ZT,ZT,ZF,ZF,ZF,ZF,ZF] rfl rfl (any_of HT_.out (by kernel_rfl)) (fun _ _ _ h => h) (Or.inr ⟨by rfl, rfl⟩) ?_ ?_
    rotate_left
    ·simp only [Act.put, Za, Zb, Zc, i64_w, i32_w]
     rfl
    refine pure_ (i := 15) (N := some 35) (v := undef) (a' := ?_) #[ZT,ZT,ZT,ZT,ZT,ZT,ZT,ZT,ZT,ZT,ZT,ZT,ZT,ZT,ZT,ZT,ZF,ZF,ZF,ZF] rfl rfl (any_of HT_.out (by kernel_rfl)) (fun _ _ _ h => h) (Or.inr ⟨by rfl, rfl⟩) ?_ ?_
    rotate_left
    ·simp only [Act.put, Za, Zb, Zc, i64_w, i32_w]
     rfl
    refine p1 HT_ 16 36 ?_
    refine o1 HT_ 17 (some 37) (fun K hK => ?_)
    refine goes_ Try.func79 (by kernel_rfl) rfl #[.int .i64 ((rd_L3 l0_6 x5_1).length : Int), .bool false] (by rfl) rfl rfl (by (try simp only [Zdb, Zeb, Zfb]); first | done | rfl | (simp only [Zha, Zga]; rfl)) ?_
    with_reducible refine (psalteryref18_lace.calls ((rd_L3 l0_6 x5_1).length : Int) false t110 _ A23.out).mono ?_
    rintro e w34 ⟨v111, rfl, ho0, hb⟩
    refine ⟨_, rfl, ?_⟩
    have n0_ := Zma (Kd.R_elder' (rq HO_4.out) (Kd.R_base ho0) hb)
    have n1_ := Zma (Zxa (Kd.R_new' ho0 (Kd.R_lt (rq HO_4.out))) (Zfa bq))
    have n2_ := Zma (Zab (g := gb101) (o := .cells #[.int .i64 a0_0, .int .i64 a0_1, .bool a0_2, .bool a0_3, .bool a0_4, .bool false, .slice (some ad102) l0_6.length c0_6] 50 (0, 0)) (kq BK101.out) hb)
    have n3_ := Zma (Zoa bq hb)
    clear HO_4 BK101 HB; have HO_4 := n0_; have HO112 := n1_; have BK101 := n2_; have HB := n3_; clear n0_ n1_ n2_ n3_
    (try clear hb)
    (try clear ho0)
    obtain ⟨Ao36, co36, eo36⟩ := Kd.R_slice HO112.out
    (first | subst eo36 | (injection eo36 with f1_ f2_ f3_; have f4_ := f1_.symm; have f5_ := f3_.symm; clear f1_ f2_ f3_; subst f4_; subst f5_))
    refine hK.out _ _ ⟨(Zd BK101.out 0).trans rfl, (Zd BK101.out 1).trans rfl, (Zd BK101.out 2).trans rfl, (Zd BK101.out 3).trans rfl, (Zd BK101.out 4).trans rfl, (Zd BK101.out 5).trans rfl, (Zd BK101.out 6).trans rfl, ((HB.out.cell (Zh w _ hw103_0)).trans hw103_0)⟩ (fun hHeld => ?_)
    clear hK K
    refine n1 37 ?_
    refine o1 HT_ 18 (some 38) (fun K hK => ?_)
    refine Kd.R_append_rows_step (Kd.int .u8) (w0 := w) w.heap.size (by rfl) (.tmp 20) (.tmp 37) 28 5 (.int .u8 0) 1 rfl Try.underlying28 info5 rfl (by decide) (by omega) u4 x4_1 t110 _ _ _ (fun k_ => some k_ ≠ (.slice Ao36 t110.length co36 : Value).ownBlock) (fun _ => False) rfl rfl ?aO ?aR (fun _ _ h => h) (fun _ h => h.elim) ?aF ?aB ?aS ?aL ?_
    (case aR => exact cq ((Zkb HO112.out).2.2))
    (case aB => exact bq)
    (case aF => exact (fun k_ hk => Kd.fresh' (Kd.R_lt (rq HO112.out)) k_ hk))
    (case aO => exact (by refine rq ?_; exact Kd.R_mono HO_4.out (fun _ hk => hk.2)))
    (case aS => exact (Zfa bq))
    (case aL => have := LMc24.out; omega)
    intro v114 w35 ho hb hg hat
    rw [← Ny113.out] at ho
    have n0_ := Zma (blk_grown (g := gb101) (o := .cells #[.int .i64 a0_0, .int .i64 a0_1, .bool a0_2, .bool a0_3, .bool a0_4, .bool false, .slice (some ad102) l0_6.length c0_6] 50 (0, 0)) (kq BK101.out) hg (Kd.R_ne HO_4.out BK101.out (by decide)))
    have n1_ := Zma (Kd.R_after (ok := (fun _ => True)) (rq HO112.out) hg hat)
    have n2_ := Zma (hb)
    have n3_ := Zma (ho)
    clear BK101 HO112 HB HO_4; have BK101 := n0_; have HO112 := n1_; have HB := n2_; have HO115 := n3_; clear n0_ n1_ n2_ n3_ ho hb hg hat
    refine hK.out _ _ ⟨(Zd BK101.out 0).trans rfl, (Zd BK101.out 1).trans rfl, (Zd BK101.out 2).trans rfl, (Zd BK101.out 3).trans rfl, (Zd BK101.out 4).trans rfl, (Zd BK101.out 5).trans rfl, (Zd BK101.out 6).trans rfl, ((HB.out.cell (Zh w _ hw103_0)).trans hw103_0)⟩ (fun hHeld => ?_)
    clear hK K
    refine n1 38 ?_
    refine p1 HT_ 19 4 ?_
    refine done_ (done_of HT_.out (by kernel_rfl)) ?_
    obtain ⟨Ao37, co37, eo37⟩ := Kd.R_slice HO115.out
    subst eo37
    try go_wp2
    go_roundg k1
    case measure => have := HK1.out; omega
    case rel => exact ⟨(y113), (wrap64 (x5_1 + 1)), (by first | rfl | (simp; done) | (simp [*]; done)), H', ⟨by have := HK1.out; omega⟩, ⟨by refine rq ?_; exact Kd.R_mono HO115.out (fun _ hk => trivial)⟩, ⟨kq BK101.out⟩, ⟨bq⟩⟩
   rw [if_neg c3] at H
   have c3b0 : decide (x5_1 < (l0_6.length : Int)) = false := Zna c3
   clear c3
   simp only [Zib, Zhb] at H
   obtain ⟨rfl, rfl⟩ := H
   obtain ⟨hcz38_0, hcz38_1, hcz38_2, hcz38_3, hcz38_4, hcz38_5, hcz38_6, hfz38_0, hfz38_1, hfz38_2, hfz38_3, hfz38_4, hfz38_5, hfz38_6⟩ := blk7 BK101.out
   go_wp2
   go_ret2
   exact ⟨_, by first | rfl | (simp [errW_none, errW_some] <;> rfl) | (simp [*, errW_none, errW_some] <;> rfl), rq HO_4.out, bq⟩

def psalteryref18_Laces.f (seq gran : Int) (first last cont more : Bool) (p : List (List Int)) : Option (List Int × Bool) := if smallP p then some (if (lacesL more p).length ≤ 255 then (lacesL more p, true) else ([], false)) else none
theorem psalteryref18_Laces.of {seq gran : Int} {first last cont more : Bool} {p : List (List Int)} {r : List Int × Bool} (h : psalteryref18_Laces.f seq gran first last cont more p = some r) : ∃ k, psalteryref18_Laces_raw.f k seq gran first last cont more p = some r := by
  unfold psalteryref18_Laces.f at h
  split at h
  case isFalse => cases h
  case isTrue hs =>
    injection h with h
    subst h
    refine Ev.rounds ?_
    unfold psalteryref18_Laces_raw.f
    have hn := hs.1
    have go : ∀ (d j : Nat) (x : List Int), j ≤ p.length → p.length - j = d → x.length ≤ 255 → x ++ lacesL more (p.drop j) = lacesL more p → Ev (fun k => psalteryref18_Laces_raw.l0 k x (j : Int) seq gran first last cont more p) (if (lacesL more p).length ≤ 255 then (lacesL more p, true) else ([], false)) := by
      intro d
      induction d with
      | zero =>
        intro j x hj hd hx hl
        obtain rfl : j = p.length := by omega
        rw [List.drop_length, lacesL, List.append_nil] at hl
        subst hl
        rw [if_pos hx]
        refine Ev.step (f := fun _ => some (lacesL more p, true)) (fun k => ?_) (Ev.now _)
        simp only [psalteryref18_Laces_raw.l0]
        rw [if_neg (by omega)]
      | succ d ih =>
        intro j x hj hd hx hl
        have hj1 : j < p.length := by omega
        have hb := hs.2 _ (rd_L3_mem p j hj1)
        rw [lacesL_drop more p j hj1, ← List.append_assoc] at hl
        obtain ⟨y, hy⟩ : ∃ y, (if more = true ∧ p.length = j + 1 then laceO (rd_L3 p (j : Int)).length else laceC (rd_L3 p (j : Int)).length) = y := ⟨_, rfl⟩
        rw [hy] at hl
        have hyl : y.length ≤ 300 := by
          rw [← hy]
          split
          · rw [laceO_length]; omega
          · rw [laceC_length]; omega
        have e2 : wrap64 ((j : Int) + 1) = ((j + 1 : Nat) : Int) := by unfold wrap64; omega
        have e3 : wrap64 ((p.length : Int) - 1) = (p.length : Int) - 1 := by unfold wrap64; omega
        have hraw : ∀ k, psalteryref18_Laces_raw.l0 (k + 1) x (j : Int) seq gran first last cont more p = (if ((x ++ y).length : Int) > 255 then (some (([] : List Int), false)) else (psalteryref18_Laces_raw.l0 k (x ++ y) ((j + 1 : Nat) : Int) seq gran first last cont more p)) := fun k => by
          simp only [psalteryref18_Laces_raw.l0]
          rw [if_pos (by omega), if_pos (by omega), if_neg (by omega)]
          have hlim : x.length + y.length < 140737488355328 := by omega
          cases more with
          | true =>
            have e4 : psalteryref18_lace.f ((rd_L3 p (j : Int)).length : Int) ((j : Int) == wrap64 ((p.length : Int) - 1)) = some y := by
              rw [psalteryref18_lace.f, if_pos ⟨by omega, by omega⟩, ← hy, e3, Int.toNat_natCast]
              congr 1
              by_cases hl' : p.length = j + 1
              · rw [if_pos (beq_iff_eq.mpr (by omega)), if_pos ⟨rfl, hl'⟩]
              · rw [if_neg (fun h => hl' (by have := beq_iff_eq.mp h; omega)), if_neg (fun h => hl' h.2)]
            rw [if_pos rfl, e4, Zsa, if_pos hlim, Zsa, e2]
          | false =>
            have e4 : psalteryref18_lace.f ((rd_L3 p (j : Int)).length : Int) false = some y := by
              rw [psalteryref18_lace.f, if_pos ⟨by omega, by omega⟩, ← hy, Int.toNat_natCast, if_neg (by simp), if_neg (fun h => absurd h.1 (by simp))]
            rw [if_neg (by simp), e4, Zsa, if_pos hlim, Zsa, e2]
        by_cases h5 : (x ++ y).length ≤ 255
        · refine Ev.step (fun k => ?_) (ih (j + 1) (x ++ y) (by omega) (by omega) h5 hl)
          rw [hraw, if_neg (by omega)]
        · have h6 : ¬ (lacesL more p).length ≤ 255 := by
            rw [← hl, List.length_append]
            omega
          rw [if_neg h6]
          refine Ev.step (f := fun _ => some ([], false)) (fun k => ?_) (Ev.now _)
          rw [hraw, if_pos (by omega)]
    exact go p.length 0 [] (by omega) (by omega) (by simp) (by rw [List.drop_zero, List.nil_append])
theorem psalteryref18_Laces.calls (a0_0 : Int) (a0_1 : Int) (a0_2 : Bool) (a0_3 : Bool) (a0_4 : Bool) (a0_5 : Bool) (A0_6 : Option Addr) (c0_6 : Nat) (l0_6 : List (List Int)) (r1 : List Int) (r2 : Bool) (w : World) (hr0_6 : Kd.C (Kd.slice 5 (Kd.int .u8)) w A0_6 l0_6.length l0_6) (hc0_6 : l0_6.length ≤ c0_6) (h : psalteryref18_Laces.f a0_0 a0_1 a0_2 a0_3 a0_4 a0_5 l0_6 = some (r1, r2)) :
  Calls Try.prog 75 #[.agg #[.int .i64 a0_0, .int .i64 a0_1, .bool a0_2, .bool a0_3, .bool a0_4, .bool a0_5, .slice A0_6 l0_6.length c0_6]] w fun e w' => ∃ v0_ : Value, e = .returned (.tuple #[v0_, .bool r2]) ∧ Kd.R (Kd.int .u8) 5 w' w.heap.size (fun _ => True) v0_ r1 ∧ Below w.heap.size w w' := by
  obtain ⟨k, hk⟩ := psalteryref18_Laces.of h
  exact psalteryref18_Laces_raw.calls k a0_0 a0_1 a0_2 a0_3 a0_4 a0_5 A0_6 c0_6 l0_6 r1 r2 w hr0_6 hc0_6 hk

/-! ### psalteryref18_Right_raw: function 55 -/
def psalteryref18_Right_raw.j0 : Nat → Bool → Int → Int → Bool → Bool → Bool → Bool → List (List Int) → Option (Bool)
 | 0, _, _, _, _, _, _, _, _ => none
 | k + 1, x23, x102000, x102001, x102002, x102003, x102004, x102005, x102006 => if x23 = true then (some false) else (if x102005 = true then (if (x102006.length : Int) = 0 then (some false) else (if 0 ≤ (wrap64 ((x102006.length : Int) - 1)) then (if (wrap64 ((x102006.length : Int) - 1)) < (x102006.length : Int) then (if ((rd_L3 x102006 (wrap64 ((x102006.length : Int) - 1))).length : Int) = 0 then (some false) else (if (((rd_L3 x102006 (wrap64 ((x102006.length : Int) - 1))).length : Int) % 255) = 0 then ((psalteryref18_Laces.f x102000 x102001 x102002 x102003 x102004 x102005 x102006).bind fun bt103 => (some bt103.2)) else (some false))) else (none)) else (none))) else ((psalteryref18_Laces.f x102000 x102001 x102002 x102003 x102004 x102005 x102006).bind fun bt107 => (some bt107.2)))
def psalteryref18_Right_raw.f (k : Nat) (a0_0 : Int) (a0_1 : Int) (a0_2 : Bool) (a0_3 : Bool) (a0_4 : Bool) (a0_5 : Bool) (l0_6 : List (List Int)) : Option (Bool) := if a0_0 < 0 then (psalteryref18_Right_raw.j0 k true a0_0 a0_1 a0_2 a0_3 a0_4 a0_5 l0_6) else (if a0_0 > 4294967295 then (psalteryref18_Right_raw.j0 k true a0_0 a0_1 a0_2 a0_3 a0_4 a0_5 l0_6) else (if a0_1 < 0 then (psalteryref18_Right_raw.j0 k true a0_0 a0_1 a0_2 a0_3 a0_4 a0_5 l0_6) else (psalteryref18_Right_raw.j0 k (decide (a0_1 > 4611686018427387904)) a0_0 a0_1 a0_2 a0_3 a0_4 a0_5 l0_6)))
set_option maxHeartbeats 8000000 in
set_option maxRecDepth 100000 in
theorem psalteryref18_Right_raw.calls (k : Nat) (a0_0 : Int) (a0_1 : Int) (a0_2 : Bool) (a0_3 : Bool) (a0_4 : Bool) (a0_5 : Bool) (A0_6 : Option Addr) (c0_6 : Nat) (l0_6 : List (List Int)) (r : Bool) (w : World) (hr0_6 : Kd.C (Kd.slice 5 (Kd.int .u8)) w A0_6 l0_6.length l0_6) (hc0_6 : l0_6.length ≤ c0_6) (h : psalteryref18_Right_raw.f k a0_0 a0_1 a0_2 a0_3 a0_4 a0_5 l0_6 = some r) :
  Calls Try.prog 55 #[.agg #[.int .i64 a0_0, .int .i64 a0_1, .bool a0_2, .bool a0_3, .bool a0_4, .bool a0_5, .slice A0_6 l0_6.length c0_6]] w fun e w' => e = .returned (.bool r) ∧ Below w.heap.size w w' := by
 have hu50 := Try.underlying50
 have HR0_6 := Zma hr0_6
 have HC0_6 := Zma hc0_6
 clear hr0_6 hc0_6
 have HB := Zma (Below.refl w.heap.size w)
 have H : (if a0_0 < 0 then (psalteryref18_Right_raw.j0 k true a0_0 a0_1 a0_2 a0_3 a0_4 a0_5 l0_6) else (if a0_0 > 4294967295 then (psalteryref18_Right_raw.j0 k true a0_0 a0_1 a0_2 a0_3 a0_4 a0_5 l0_6) else (if a0_1 < 0 then (psalteryref18_Right_raw.j0 k true a0_0 a0_1 a0_2 a0_3 a0_4 a0_5 l0_6) else (psalteryref18_Right_raw.j0 k (decide (a0_1 > 4611686018427387904)) a0_0 a0_1 a0_2 a0_3 a0_4 a0_5 l0_6)))) = some r := h
 clear h
 have HC2 := Zma H
 clear H
 go_enter Try.func55, Try.ntmps55
 go_upto_region 1 with (first | ((with_reducible refine gate_dst (N := 1) rfl ?_); refine box_event ?hg (N := 1) ?hd (cs := #[.int .i64 a0_0, .int .i64 a0_1, .bool a0_2, .bool a0_3, .bool a0_4, .bool a0_5, .slice A0_6 l0_6.length c0_6]) (t := 50) ?hr ?_; (case hd => rfl); (case hg => rfl); (case hr => first | (go_simp; done) | (go_simp; rfl)); intro gb101 hg w3 hbox hb; have n0_ := Zma (Zoa bq hb); have n1_ := Zma (hbox); have n2_ := Zma ((by rw [hg]; exact (Zfa bq) : w.heap.size ≤ gb101)); have n3_ := Zma ((by rw [hg]; exact (Zfa bq) : w.heap.size ≤ gb101)); clear HB; have HB := n0_; have BK101 := n1_; have GW101 := n2_; have GE101 := n3_; clear n0_ n1_ n2_ n3_ hb hbox hg))
 (try simp only [Act.put, Za, Zb, Zc])
 go_cut [23] (fun v23 wc => ∃ (kq : Nat) (x23_1 : Bool), v23 = .bool x23_1 ∧ Aside0 (psalteryref18_Right_raw.j0 kq x23_1 a0_0 a0_1 a0_2 a0_3 a0_4 a0_5 l0_6 = some r) ∧ Aside0 (kq ≤ k) ∧ Aside0 (wc.heap[gb101]? = some (.cells #[.int .i64 a0_0, .int .i64 a0_1, .bool a0_2, .bool a0_3, .bool a0_4, .bool a0_5, (.slice A0_6 l0_6.length c0_6)] 50 (0, 0))) ∧ Aside0 (Below w.heap.size w wc))
 case first =>
  have H := HC2.out
  clear HC2
  by_cases c4 : a0_0 < 0
  ·rw [if_pos c4] at H
   have c4b0 : decide (a0_0 < 0) = true := Zn c4
   clear c4
   (first | rw [c4b0] | (simp only [i64_w, i32_w]; rw [c4b0]) | skip)
   have H' := Zma H
   clear H
   obtain ⟨hcz5_0, hcz5_1, hcz5_2, hcz5_3, hcz5_4, hcz5_5, hcz5_6, hfz5_0, hfz5_1, hfz5_2, hfz5_3, hfz5_4, hfz5_5, hfz5_6⟩ := blk7 BK101.out
   go_wp2
   go_meet
   case rel => exact ⟨_, (true), (by first | rfl | (simp; done) | (simp [*]; done)), H', ⟨by first | omega | exact Zra _⟩, ⟨kq BK101.out⟩, ⟨bq⟩⟩
  rw [if_neg c4] at H
  have c4b0 : decide (a0_0 < 0) = false := Zna c4
  clear c4
  (first | rw [c4b0] | (simp only [i64_w, i32_w]; rw [c4b0]) | skip)
  by_cases c6 : a0_0 > 4294967295
  ·rw [if_pos c6] at H
   have c6b0 : decide (4294967295 < a0_0) = true := Zn c6
   clear c6
   have H' := Zma H
   clear H
   obtain ⟨hcz7_0, hcz7_1, hcz7_2, hcz7_3, hcz7_4, hcz7_5, hcz7_6, hfz7_0, hfz7_1, hfz7_2, hfz7_3, hfz7_4, hfz7_5, hfz7_6⟩ := blk7 BK101.out
   go_wp2
   go_meet
   case rel => exact ⟨_, (true), (by first | rfl | (simp; done) | (simp [*]; done)), H', ⟨by first | omega | exact Zra _⟩, ⟨kq BK101.out⟩, ⟨bq⟩⟩
  rw [if_neg c6] at H
  have c6b0 : decide (4294967295 < a0_0) = false := Zna c6
  clear c6
  by_cases c8 : a0_1 < 0
  ·rw [if_pos c8] at H
   have c8b0 : decide (a0_1 < 0) = true := Zn c8
   clear c8
   have H' := Zma H
   clear H
   obtain ⟨hcz9_0, hcz9_1, hcz9_2, hcz9_3, hcz9_4, hcz9_5, hcz9_6, hfz9_0, hfz9_1, hfz9_2, hfz9_3, hfz9_4, hfz9_5, hfz9_6⟩ := blk7 BK101.out
   go_wp2
   go_meet
   case rel => exact ⟨_, (true), (by first | rfl | (simp; done) | (simp [*]; done)), H', ⟨by first | omega | exact Zra _⟩, ⟨kq BK101.out⟩, ⟨bq⟩⟩
  rw [if_neg c8] at H
  have c8b0 : decide (a0_1 < 0) = false := Zna c8
  clear c8
  have H' := Zma H
  clear H
  obtain ⟨hcz10_0, hcz10_1, hcz10_2, hcz10_3, hcz10_4, hcz10_5, hcz10_6, hfz10_0, hfz10_1, hfz10_2, hfz10_3, hfz10_4, hfz10_5, hfz10_6⟩ := blk7 BK101.out
  go_wp2
  go_meet
  case rel => exact ⟨_, (decide (a0_1 > 4611686018427387904)), (by first | rfl | (simp; done) | (simp [*]; done)), H', ⟨by first | omega | exact Zra _⟩, ⟨kq BK101.out⟩, ⟨bq⟩⟩
 case rest =>
  clear HC2
  try clear p2
  try clear c4
  try clear c4b0
  try clear c5
  try clear c6
  try clear c6b0
  try clear c8
  try clear c8b0
  try clear hcz10_0
  try clear hcz10_1
  try clear hcz10_2
  try clear hcz10_3
  try clear hcz10_4
  try clear hcz10_5
  try clear hcz10_6
  try clear hcz5_0
  try clear hcz5_1
  try clear hcz5_2
  try clear hcz5_3
  try clear hcz5_4
  try clear hcz5_5
  try clear hcz5_6
  try clear hcz7_0
  try clear hcz7_1
  try clear hcz7_2
  try clear hcz7_3
  try clear hcz7_4
  try clear hcz7_5
  try clear hcz7_6
  try clear hcz9_0
  try clear hcz9_1
  try clear hcz9_2
  try clear hcz9_3
  try clear hcz9_4
  try clear hcz9_5
  try clear hcz9_6
  try clear hfz10_0
  try clear hfz10_1
  try clear hfz10_2
  try clear hfz10_3
  try clear hfz10_4
  try clear hfz10_5
  try clear hfz10_6
  try clear hfz5_0
  try clear hfz5_1
  try clear hfz5_2
  try clear hfz5_3
  try clear hfz5_4
  try clear hfz5_5
  try clear hfz5_6
  try clear hfz7_0
  try clear hfz7_1
  try clear hfz7_2
  try clear hfz7_3
  try clear hfz7_4
  try clear hfz7_5
  try clear hfz7_6
  try clear hfz9_0
  try clear hfz9_1
  try clear hfz9_2
  try clear hfz9_3
  try clear hfz9_4
  try clear hfz9_5
  try clear hfz9_6
  obtain ⟨kq, x23_1, rfl, HA, HJ1, BK101, HB⟩ := hcut
  cases kq with
  | zero => exact absurd HA.out (by simp [psalteryref18_Right_raw.j0])
  | succ kj1 =>
   have H := HA.out
   clear HA
   simp only [psalteryref18_Right_raw.j0] at H
   by_cases c11 : x23_1 = true
   ·subst c11
    have H1 : (some false) = some r := by rw [if_pos rfl] at H; exact H
    clear H
    have H := H1
    clear H1
    obtain rfl := Zgb H
    go_wp2
    go_ret
    exact ⟨by first | rfl | (simp [errW_none, errW_some] <;> rfl) | (simp [*, errW_none, errW_some] <;> rfl), bq⟩
   replace c11 := Bool.eq_false_iff.mpr c11
   subst c11
   have H1 : (if a0_5 = true then (if (l0_6.length : Int) = 0 then (some false) else (if 0 ≤ (wrap64 ((l0_6.length : Int) - 1)) then (if (wrap64 ((l0_6.length : Int) - 1)) < (l0_6.length : Int) then (if ((rd_L3 l0_6 (wrap64 ((l0_6.length : Int) - 1))).length : Int) = 0 then (some false) else (if (((rd_L3 l0_6 (wrap64 ((l0_6.length : Int) - 1))).length : Int) % 255) = 0 then ((psalteryref18_Laces.f a0_0 a0_1 a0_2 a0_3 a0_4 a0_5 l0_6).bind fun bt103 => (some bt103.2)) else (some false))) else (none)) else (none))) else ((psalteryref18_Laces.f a0_0 a0_1 a0_2 a0_3 a0_4 a0_5 l0_6).bind fun bt107 => (some bt107.2))) = some r := by rw [if_neg (show ¬ (false = true) by decide)] at H; exact H
   clear H
   have H := H1
   clear H1
   by_cases c12 : a0_5 = true
   ·subst c12
    have H1 : (if (l0_6.length : Int) = 0 then (some false) else (if 0 ≤ (wrap64 ((l0_6.length : Int) - 1)) then (if (wrap64 ((l0_6.length : Int) - 1)) < (l0_6.length : Int) then (if ((rd_L3 l0_6 (wrap64 ((l0_6.length : Int) - 1))).length : Int) = 0 then (some false) else (if (((rd_L3 l0_6 (wrap64 ((l0_6.length : Int) - 1))).length : Int) % 255) = 0 then ((psalteryref18_Laces.f a0_0 a0_1 a0_2 a0_3 a0_4 true l0_6).bind fun bt103 => (some bt103.2)) else (some false))) else (none)) else (none))) = some r := by rw [if_pos rfl] at H; exact H
    clear H
    have H := H1
    clear H1
    by_cases c13 : (l0_6.length : Int) = 0
    ·rw [if_pos c13] at H
     have c13b0 : ((l0_6.length : Int) == 0) = true := beq_iff_eq.mpr c13
     have c13b1 : ((l0_6.length : Int) != 0) = false := bne_eq_false_iff_eq.mpr c13
     clear c13
     obtain rfl := Zgb H
     obtain ⟨hcz14_0, hcz14_1, hcz14_2, hcz14_3, hcz14_4, hcz14_5, hcz14_6, hfz14_0, hfz14_1, hfz14_2, hfz14_3, hfz14_4, hfz14_5, hfz14_6⟩ := blk7 BK101.out
     go_wp2
     go_ret
     exact ⟨by first | rfl | (simp [errW_none, errW_some] <;> rfl) | (simp [*, errW_none, errW_some] <;> rfl), bq⟩
    rw [if_neg c13] at H
    have c13b0 : ((l0_6.length : Int) == 0) = false := beq_eq_false_iff_ne.mpr c13
    have c13b1 : ((l0_6.length : Int) != 0) = true := bne_iff_ne.mpr c13
    have c13b2 : ¬ (l0_6 = []) := fun h_ => c13 (by rw [h_]; rfl)
    obtain ⟨ji15, hji15⟩ : ∃ j_ : Int, (wrap64 ((l0_6.length : Int) - 1)) = j_ := ⟨_, rfl⟩
    replace H : (if 0 ≤ (ji15) then (if (ji15) < (l0_6.length : Int) then (if ((rd_L3 l0_6 (ji15)).length : Int) = 0 then (some false) else (if (((rd_L3 l0_6 (ji15)).length : Int) % 255) = 0 then ((psalteryref18_Laces.f a0_0 a0_1 a0_2 a0_3 a0_4 true l0_6).bind fun bt103 => (some bt103.2)) else (some false))) else (none)) else (none)) = some r := by first | (rw [hji15] at H; exact H) | (simp only [hji15] at H ⊢; exact H)
    have hji15w : (IntKind.i64.wrap ((l0_6.length : Int) - 1)) = ji15 := (i64_w _).trans hji15
    by_cases c16 : 0 ≤ (ji15)
    rotate_left
    ·rw [if_neg c16] at H
     exact absurd H (by simp)
    rw [if_pos c16] at H
    have c16b0 : decide (0 ≤ (ji15)) = true := Zn c16
    clear c16
    by_cases c17 : (ji15) < (l0_6.length : Int)
    rotate_left
    ·rw [if_neg c17] at H
     exact absurd H (by simp)
    rw [if_pos c17] at H
    have c17b0 : decide ((ji15) < (l0_6.length : Int)) = true := Zn c17
    clear c17
    by_cases c18 : ((rd_L3 l0_6 (ji15)).length : Int) = 0
    ·rw [if_pos c18] at H
     have c18b0 : (((rd_L3 l0_6 (ji15)).length : Int) == 0) = true := beq_iff_eq.mpr c18
     have c18b1 : (((rd_L3 l0_6 (ji15)).length : Int) != 0) = false := bne_eq_false_iff_eq.mpr c18
     clear c18
     obtain rfl := Zgb H
     obtain ⟨hcz19_0, hcz19_1, hcz19_2, hcz19_3, hcz19_4, hcz19_5, hcz19_6, hfz19_0, hfz19_1, hfz19_2, hfz19_3, hfz19_4, hfz19_5, hfz19_6⟩ := blk7 BK101.out
     have p102 : 0 ≤ ((ji15) : Int) := Zg (by first | (with_reducible assumption) | assumption)
     have q102 : (ji15) < (l0_6.length : Int) := Zg (by first | (with_reducible assumption) | assumption)
     obtain ⟨ad102, A102_0, c102_0, e102, hx102_0, hl102_0, hi102_0⟩ := at_L3 HR0_6.out (ji15) p102 q102
     cases e102
     replace hx102_0 := (HB.out.cell (Zh w _ hx102_0)).trans hx102_0
     have HR102_0 := Zma hi102_0
     have HC102_0 := Zma hl102_0
     clear hi102_0 hl102_0
     replace p102 := Zja p102
     replace q102 := Zja q102
     go_wp2
     go_ret
     exact ⟨by first | rfl | (simp [errW_none, errW_some] <;> rfl) | (simp only [← hji15]; first | rfl | (simp [errW_none, errW_some] <;> rfl)) | (simp [*, errW_none, errW_some] <;> rfl), bq⟩
    rw [if_neg c18] at H
    have c18b0 : (((rd_L3 l0_6 (ji15)).length : Int) == 0) = false := beq_eq_false_iff_ne.mpr c18
    have c18b1 : (((rd_L3 l0_6 (ji15)).length : Int) != 0) = true := bne_iff_ne.mpr c18
    have c18b2 : ¬ ((rd_L3 l0_6 (ji15)) = []) := fun h_ => c18 (by rw [h_]; rfl)
    by_cases c20 : (((rd_L3 l0_6 (ji15)).length : Int) % 255) = 0
    ·rw [if_pos c20] at H
     have c20b0 : ((((rd_L3 l0_6 (ji15)).length : Int) % 255) == 0) = true := beq_iff_eq.mpr c20
     have c20b1 : ((((rd_L3 l0_6 (ji15)).length : Int) % 255) != 0) = false := bne_eq_false_iff_eq.mpr c20
     clear c20
     replace H := Option.bind_eq_some_iff.mp H
     obtain ⟨⟨t103, t106⟩, A210, H⟩ := H
     replace H : (some t106) = some r := H
     have A21 := Zma A210
     clear A210
     obtain rfl := Zgb H
     obtain ⟨hcz22_0, hcz22_1, hcz22_2, hcz22_3, hcz22_4, hcz22_5, hcz22_6, hfz22_0, hfz22_1, hfz22_2, hfz22_3, hfz22_4, hfz22_5, hfz22_6⟩ := blk7 BK101.out
     have p102 : 0 ≤ ((ji15) : Int) := Zg (by first | (with_reducible assumption) | assumption)
     have q102 : (ji15) < (l0_6.length : Int) := Zg (by first | (with_reducible assumption) | assumption)
     obtain ⟨ad102, A102_0, c102_0, e102, hx102_0, hl102_0, hi102_0⟩ := at_L3 HR0_6.out (ji15) p102 q102
     cases e102
     replace hx102_0 := (HB.out.cell (Zh w _ hx102_0)).trans hx102_0
     have HR102_0 := Zma hi102_0
     have HC102_0 := Zma hl102_0
     clear hi102_0 hl102_0
     replace p102 := Zja p102
     replace q102 := Zja q102
     go_wp2_with (first | ((with_reducible refine gate_callee (f := 75) rfl ?_); refine goesL_ (some 48) rfl rfl Try.func75 (by kernel_rfl) rfl #[.agg #[.int .i64 a0_0, .int .i64 a0_1, .bool a0_2, .bool a0_3, .bool a0_4, .bool true, .slice (some ad102) l0_6.length c0_6]] rfl (by (try simp only [Zdb, Zeb, Zfb]); first | done | rfl | (simp only [Zha, Zga]; rfl)) ?_; (with_reducible refine (psalteryref18_Laces.calls a0_0 a0_1 a0_2 a0_3 a0_4 true _ _ l0_6 t103 t106 _ ?side1 ?side2 A21.out).mono ?_); (case side1 => exact cq ((Kd.C_below HR0_6.out HB.out))); (case side2 => exact HC0_6.out); rintro e w23 ⟨v104, rfl, ho0, hb⟩; refine ⟨_, rfl, ?_⟩; have n0_ := Zma (Zxa ho0 (Zfa bq)); have n1_ := Zma (Zab (g := gb101) (o := .cells #[.int .i64 a0_0, .int .i64 a0_1, .bool a0_2, .bool a0_3, .bool a0_4, .bool true, .slice (some ad102) l0_6.length c0_6] 50 (0, 0)) (kq BK101.out) hb); have n2_ := Zma (Zoa bq hb); clear BK101 HB; have HO105 := n0_; have BK101 := n1_; have HB := n2_; clear n0_ n1_ n2_; (try clear hb); (try clear hb2); (try clear hk); (try clear hi); (try clear ho0)))
     go_ret
     exact ⟨by first | rfl | (simp [errW_none, errW_some] <;> rfl) | (simp only [← hji15]; first | rfl | (simp [errW_none, errW_some] <;> rfl)) | (simp [*, errW_none, errW_some] <;> rfl), bq⟩
    rw [if_neg c20] at H
    have c20b0 : ((((rd_L3 l0_6 (ji15)).length : Int) % 255) == 0) = false := beq_eq_false_iff_ne.mpr c20
    have c20b1 : ((((rd_L3 l0_6 (ji15)).length : Int) % 255) != 0) = true := bne_iff_ne.mpr c20
    obtain rfl := Zgb H
    obtain ⟨hcz24_0, hcz24_1, hcz24_2, hcz24_3, hcz24_4, hcz24_5, hcz24_6, hfz24_0, hfz24_1, hfz24_2, hfz24_3, hfz24_4, hfz24_5, hfz24_6⟩ := blk7 BK101.out
    have p102 : 0 ≤ ((ji15) : Int) := Zg (by first | (with_reducible assumption) | assumption)
    have q102 : (ji15) < (l0_6.length : Int) := Zg (by first | (with_reducible assumption) | assumption)
    obtain ⟨ad102, A102_0, c102_0, e102, hx102_0, hl102_0, hi102_0⟩ := at_L3 HR0_6.out (ji15) p102 q102
    cases e102
    replace hx102_0 := (HB.out.cell (Zh w _ hx102_0)).trans hx102_0
    have HR102_0 := Zma hi102_0
    have HC102_0 := Zma hl102_0
    clear hi102_0 hl102_0
    replace p102 := Zja p102
    replace q102 := Zja q102
    go_wp2
    go_ret
    exact ⟨by first | rfl | (simp [errW_none, errW_some] <;> rfl) | (simp only [← hji15]; first | rfl | (simp [errW_none, errW_some] <;> rfl)) | (simp [*, errW_none, errW_some] <;> rfl), bq⟩
   replace c12 := Bool.eq_false_iff.mpr c12
   subst c12
   have H1 : ((psalteryref18_Laces.f a0_0 a0_1 a0_2 a0_3 a0_4 false l0_6).bind fun bt107 => (some bt107.2)) = some r := by rw [if_neg (show ¬ (false = true) by decide)] at H; exact H
   clear H
   have H := H1
   clear H1
   replace H := Option.bind_eq_some_iff.mp H
   obtain ⟨⟨t107, t110⟩, A250, H⟩ := H
   replace H : (some t110) = some r := H
   have A25 := Zma A250
   clear A250
   obtain rfl := Zgb H
   obtain ⟨hcz26_0, hcz26_1, hcz26_2, hcz26_3, hcz26_4, hcz26_5, hcz26_6, hfz26_0, hfz26_1, hfz26_2, hfz26_3, hfz26_4, hfz26_5, hfz26_6⟩ := blk7 BK101.out
   go_wp2_with (first | ((with_reducible refine gate_callee (f := 75) rfl ?_); refine goesL_ (some 48) rfl rfl Try.func75 (by kernel_rfl) rfl #[.agg #[.int .i64 a0_0, .int .i64 a0_1, .bool a0_2, .bool a0_3, .bool a0_4, .bool false, .slice A0_6 l0_6.length c0_6]] rfl (by (try simp only [Zdb, Zeb, Zfb]); first | done | rfl | (simp only [Zha, Zga]; rfl)) ?_; (with_reducible refine (psalteryref18_Laces.calls a0_0 a0_1 a0_2 a0_3 a0_4 false _ _ l0_6 t107 t110 _ ?side1 ?side2 A25.out).mono ?_); (case side1 => exact cq ((Kd.C_below HR0_6.out HB.out))); (case side2 => exact HC0_6.out); rintro e w27 ⟨v108, rfl, ho0, hb⟩; refine ⟨_, rfl, ?_⟩; have n0_ := Zma (Zxa ho0 (Zfa bq)); have n1_ := Zma (Zab (g := gb101) (o := .cells #[.int .i64 a0_0, .int .i64 a0_1, .bool a0_2, .bool a0_3, .bool a0_4, .bool false, .slice A0_6 l0_6.length c0_6] 50 (0, 0)) (kq BK101.out) hb); have n2_ := Zma (Zoa bq hb); clear BK101 HB; have HO109 := n0_; have BK101 := n1_; have HB := n2_; clear n0_ n1_ n2_; (try clear hb); (try clear hb2); (try clear hk); (try clear hi); (try clear ho0)))
   go_ret
   exact ⟨by first | rfl | (simp [errW_none, errW_some] <;> rfl) | (simp [*, errW_none, errW_some] <;> rfl), bq⟩

def psalteryref18_Right.f (seq gran : Int) (first last cont more : Bool) (p : List (List Int)) : Option Bool := if smallP p then some (pageRight seq gran more p) else none
theorem psalteryref18_Right.of {seq gran : Int} {first last cont more : Bool} {p : List (List Int)} {r : Bool} (h : psalteryref18_Right.f seq gran first last cont more p = some r) : ∃ k, psalteryref18_Right_raw.f k seq gran first last cont more p = some r := by
  unfold psalteryref18_Right.f at h
  split at h
  case isFalse => cases h
  case isTrue hs =>
    injection h with h
    subst h
    refine ⟨1, ?_⟩
    have hn := hs.1
    have hT : psalteryref18_Right_raw.j0 1 true seq gran first last cont more p = some false := rfl
    unfold psalteryref18_Right_raw.f
    have no : ¬ (pageRight seq gran more p = true) → some false = some (pageRight seq gran more p) := fun h => by rw [Bool.eq_false_iff.mpr h]
    have hL : ∀ z : Option Bool, ((psalteryref18_Laces.f seq gran first last cont more p).bind fun bt => some bt.2) = some (decide ((lacesL more p).length ≤ 255)) := fun _ => by
      rw [psalteryref18_Laces.f, if_pos hs, Zsa]
      split
      · next h => rw [Zn h]
      · next h => rw [Zna h]
    by_cases h1 : seq < 0
    · rw [if_pos h1, hT]; exact no (fun h => by have := (pageRight_iff ..).mp h; omega)
    · rw [if_neg h1]
      by_cases h2 : seq > 4294967295
      · rw [if_pos h2, hT]; exact no (fun h => by have := (pageRight_iff ..).mp h; omega)
      · rw [if_neg h2]
        by_cases h3 : gran < 0
        · rw [if_pos h3, hT]; exact no (fun h => by have := (pageRight_iff ..).mp h; omega)
        · rw [if_neg h3]
          by_cases h4 : gran > 4611686018427387904
          · rw [Zn h4, hT]; exact no (fun h => by have := (pageRight_iff ..).mp h; omega)
          · rw [Zna h4]
            simp only [psalteryref18_Right_raw.j0]
            rw [if_neg (by simp)]
            cases more with
            | false =>
              rw [if_neg (by simp), hL none]
              congr 1
              rw [Bool.eq_iff_iff, pageRight_iff, decide_eq_true_iff]
              exact ⟨fun h5 => ⟨by omega, by omega, by omega, by omega, h5, fun h => absurd h (by simp)⟩, fun h => h.2.2.2.2.1⟩
            | true =>
              rw [if_pos rfl]
              by_cases h6 : (p.length : Int) = 0
              · rw [if_pos h6]; exact no (fun h => by have := ((pageRight_iff ..).mp h).2.2.2.2.2 rfl; omega)
              · have e2 : wrap64 ((p.length : Int) - 1) = (p.length : Int) - 1 := by unfold wrap64; omega
                rw [if_neg h6, e2, if_pos (by omega), if_pos (by omega)]
                by_cases h7 : ((rd_L3 p ((p.length : Int) - 1)).length : Int) = 0
                · rw [if_pos h7]; exact no (fun h => by have := (((pageRight_iff ..).mp h).2.2.2.2.2 rfl).2.1; unfold lastL at this; omega)
                · rw [if_neg h7]
                  by_cases h8 : ((rd_L3 p ((p.length : Int) - 1)).length : Int) % 255 = 0
                  · rw [if_pos h8, hL none]
                    congr 1
                    rw [Bool.eq_iff_iff, pageRight_iff, decide_eq_true_iff]
                    unfold lastL
                    exact ⟨fun h5 => ⟨by omega, by omega, by omega, by omega, h5, fun _ => ⟨by omega, by omega, by omega⟩⟩, fun h => h.2.2.2.2.1⟩
                  · rw [if_neg h8]; exact no (fun h => by have := (((pageRight_iff ..).mp h).2.2.2.2.2 rfl).2.2; unfold lastL at this; omega)
theorem psalteryref18_Right.calls (a0_0 : Int) (a0_1 : Int) (a0_2 : Bool) (a0_3 : Bool) (a0_4 : Bool) (a0_5 : Bool) (A0_6 : Option Addr) (c0_6 : Nat) (l0_6 : List (List Int)) (r : Bool) (w : World) (hr0_6 : Kd.C (Kd.slice 5 (Kd.int .u8)) w A0_6 l0_6.length l0_6) (hc0_6 : l0_6.length ≤ c0_6) (h : psalteryref18_Right.f a0_0 a0_1 a0_2 a0_3 a0_4 a0_5 l0_6 = some r) :
  Calls Try.prog 55 #[.agg #[.int .i64 a0_0, .int .i64 a0_1, .bool a0_2, .bool a0_3, .bool a0_4, .bool a0_5, .slice A0_6 l0_6.length c0_6]] w fun e w' => e = .returned (.bool r) ∧ Below w.heap.size w w' := by
  obtain ⟨k, hk⟩ := psalteryref18_Right.of h
  exact psalteryref18_Right_raw.calls k a0_0 a0_1 a0_2 a0_3 a0_4 a0_5 A0_6 c0_6 l0_6 r w hr0_6 hc0_6 hk

end Go.Proofs.Yteoclecadpapfaa.G
