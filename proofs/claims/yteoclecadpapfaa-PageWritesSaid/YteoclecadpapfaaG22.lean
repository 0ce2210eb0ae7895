/- What a call of psaltery/sums.Table does, told by a plain Lean function of its arguments. Written by a program for this claim. -/
import Derived.Test.YteoclecadpapfaaG0
import Derived.Test.YteoclecadpapfaaM1
namespace Go.Proofs.Yteoclecadpapfaa.G
open Go.RowKit Go.Proofs.YteoclecadpapfaaW.PrintWords Go.Proofs.YteoclecadpapfaaW.PrintLast Go.Proofs.YteoclecadpapfaaW.PrintMore
attribute [local go_sem] max2_int min2_int max_two min_two max_three min_three max_four min_four
set_option linter.unusedVariables false
set_option linter.unusedSimpArgs false

/-! ### sums_Table_raw: function 22 -/
mutual
def sums_Table_raw.l0 : Nat → List Int → Int → Int → Option (List Int)
  | 0, _, _, _ => none
  | k + 1, x1, x6, x7 => if x7 < x6 then (sums_Table_raw.l1 k x1 x7 ((x7) % 4294967296) x6 x7 0) else (some x1)
def sums_Table_raw.l1 : Nat → List Int → Int → Int → Int → Int → Int → Option (List Int)
  | 0, _, _, _, _, _, _ => none
  | k + 1, x1, x2, x3, x6, x7, x12 => if x12 < 8 then (sums_Table_raw.l1 k x1 x2 (Go.bits .xor .u32 (x3 / 2) ((3988292384 * (Go.bits .and .u32 x3 1)) % 4294967296)) x6 x7 (wrap64 (x12 + 1))) else (if 0 ≤ x2 then (if x2 < (x1.length : Int) then (sums_Table_raw.l0 k (x1.set (x2 : Int).toNat x3) x6 (wrap64 (x7 + 1))) else (none)) else (none))
end
def sums_Table_raw.f (k : Nat)  : Option (List Int) := if 256 ≤ 70368744177664 then ((some (List.replicate 256 0 : List Int)).bind fun y101 => (sums_Table_raw.l0 k y101 (y101.length : Int) 0)) else (none)
set_option maxHeartbeats 8000000 in
set_option maxRecDepth 100000 in
theorem sums_Table_raw.calls (k : Nat)  (r : List Int) (w : World) (h : sums_Table_raw.f k  = some r) :
    Calls Try.prog 22 #[] w fun e w' => ∃ v0_ : Value, e = .returned (v0_) ∧ Kd.R (Kd.int .u32) 24 w' w.heap.size (fun _ => True) v0_ r ∧ Below w.heap.size w w' := by
  have HB := Aside0.mk (Below.refl w.heap.size w)
  have H : (if 256 ≤ 70368744177664 then ((some (List.replicate 256 0 : List Int)).bind fun y101 => (sums_Table_raw.l0 k y101 (y101.length : Int) 0)) else (none)) = some r := h
  clear h
  by_cases c1 : 256 ≤ 70368744177664
  · rw [if_pos c1] at H
    have c1b0 := eq_true c1
    have c1b1 : decide (256 ≤ 70368744177664) = true := decide_eq_true c1
    clear c1
    obtain ⟨y101, hy101⟩ : ∃ y_ : List Int, y_ = (List.replicate 256 0) := ⟨_, rfl⟩
    replace H : (sums_Table_raw.l0 k y101 (y101.length : Int) 0) = some r := by first | (rw [hy101]; with_reducible exact H) | (have H2_ := (Option.bind_some _ _).symm.trans H; rw [hy101]; with_reducible exact H2_) | (have H2_ := (Option.bind_some _ _).symm.trans H; with_reducible exact H2_) | with_reducible exact H | (rw [hy101]; exact H) | exact H
    have Ny101 := Aside0.mk hy101
    clear hy101
    have H' := Aside0.mk H
    clear H
    go_enter Try.func22, Try.ntmps22
    go_wp2_with (first | ((with_reducible refine gate_dst (N := 4) rfl ?_); refine Kd.R_make (Kd.int .u32) _ 24 rfl (N := 4) rfl 22 _ _ rfl 256 rfl rfl Try.underlying22 (.int .u32 0) 4 info24 rfl (by decide) (by omega) 0 (ok := fun _ => True) (okp := fun _ => True) rfl (fun _ hk => hk) trivial (by omega) (by omega) (Below.refl _ _) (Nat.le_refl _) ?_; intro v102 w2 ho3 hb hg_ hnew_; clear hg_ hnew_; (first | rw [← Ny101.out] at ho3 | (simp only [Int.reduceToNat] at ho3; rw [← Ny101.out] at ho3)); have n0_ := Aside0.mk (Kd.R_lower ho3 (below_size (by repeat (first | (with_reducible first | exact HB.out | apply below_alloc | apply pw_below_drewN | apply below_drew1) | exact HB.out)))); have n1_ := Aside0.mk (below_step (by repeat (first | (with_reducible first | exact HB.out | apply below_alloc | apply pw_below_drewN | apply below_drew1) | exact HB.out)) hb); clear HB; have HO103 := n0_; have HB := n1_; clear n0_ n1_; clear hb ho3; obtain ⟨Ao4, co4, eo4⟩ := Kd.R_slice HO103.out; subst eo4))
    go_loopg [7] k (fun kq v7 w' => ∃ (x1_1 : List Int) (x7_1 : Int), v7 = .int .i64 x7_1 ∧ Aside0 (sums_Table_raw.l0 kq x1_1 (y101.length : Int) x7_1 = some r) ∧ Aside0 (kq ≤ k) ∧ Aside0 (Kd.R (Kd.int .u32) 24 w' w.heap.size (fun _ => True) (.slice Ao4 y101.length co4) x1_1) ∧ Aside0 (Below w.heap.size w w'))
    case atStart => exact ⟨(y101), (0), (by first | rfl | (simp; done) | (simp [*]; done)), H', ⟨Nat.le_refl _⟩, ⟨by (with_reducible repeat (first | apply Kd.R_alloc | apply Kd.R_drewN | apply Kd.R_drew)); exact HO103.out⟩, ⟨by repeat (first | (with_reducible first | exact HB.out | apply below_alloc | apply pw_below_drewN | apply below_drew1) | exact HB.out)⟩⟩
    case round =>
      clear H'
      try clear c1
      try clear c1b0
      try clear c1b1
      try clear c2
      try clear p2
      obtain ⟨x1_1, x7_1, rfl, HA, HK1, HO_1, HB⟩ := hrel
      have hl1_1 := (Kd.R_reads' HO_1.out).1
      rw [hl1_1] at HO_1
      (try simp only [hl1_1])
      cases gk with
      | zero => exact absurd HA.out (by simp [sums_Table_raw.l0])
      | succ k1 =>
        have H := HA.out
        clear HA
        simp only [sums_Table_raw.l0] at H
        by_cases c5 : x7_1 < (y101.length : Int)
        · rw [if_pos c5] at H
          have c5b0 : decide (x7_1 < (y101.length : Int)) = true := decide_eq_true c5
          (try simp only [hl1_1] at c5b0)
          clear c5
          have H' := Aside0.mk H
          clear H
          go_wp2
          go_loopg [3, 12] k1 (fun kq v3 v12 w' => ∃ (x3_2 : Int) (x12_2 : Int), v3 = .int .u32 x3_2 ∧ v12 = .int .i64 x12_2 ∧ Aside0 (sums_Table_raw.l1 kq x1_1 x7_1 x3_2 (y101.length : Int) x7_1 x12_2 = some r) ∧ Aside0 (kq ≤ k1) ∧ Aside0 (Kd.R (Kd.int .u32) 24 w' w.heap.size (fun _ => True) (.slice Ao4 x1_1.length co4) x1_1) ∧ Aside0 (Below w.heap.size w w'))
          case atStart => exact ⟨((x7_1) % 4294967296), (0), (by first | rfl | (simp; done) | (simp [*]; done)), (by first | rfl | (simp; done) | (simp [*]; done)), H', ⟨Nat.le_refl _⟩, ⟨by (try simp only [hl1_1]); (with_reducible repeat (first | apply Kd.R_alloc | apply Kd.R_drewN | apply Kd.R_drew)); exact HO_1.out⟩, ⟨by repeat (first | (with_reducible first | exact HB.out | apply below_alloc | apply pw_below_drewN | apply below_drew1) | exact HB.out)⟩⟩
          case round =>
            clear H'
            try clear c1
            try clear c1b0
            try clear c1b1
            try clear c2
            try clear p2
            try clear c5
            try clear c5b0
            try clear p2
            obtain ⟨x3_2, x12_2, rfl, rfl, HA, HK2, HO_1, HB⟩ := hrel
            cases gk with
            | zero => exact absurd HA.out (by simp [sums_Table_raw.l1])
            | succ k2 =>
              have H := HA.out
              clear HA
              simp only [sums_Table_raw.l1] at H
              by_cases c6 : x12_2 < 8
              · rw [if_pos c6] at H
                have c6b0 : decide (x12_2 < 8) = true := decide_eq_true c6
                (try simp only [hl1_1] at c6b0)
                clear c6
                have H' := Aside0.mk H
                clear H
                go_wp2
                go_roundg k2
                case measure => have := HK1.out; have := HK2.out; omega
                case rel => exact ⟨(Go.bits .xor .u32 (x3_2 / 2) ((3988292384 * (Go.bits .and .u32 x3_2 1)) % 4294967296)), (wrap64 (x12_2 + 1)), (by first | rfl | (simp; done) | (simp [*]; done)), (by first | rfl | (simp; done) | (simp [*]; done)), H', ⟨by have := HK1.out; have := HK2.out; omega⟩, ⟨by (try simp only [hl1_1]); (with_reducible repeat (first | apply Kd.R_alloc | apply Kd.R_drewN | apply Kd.R_drew)); exact HO_1.out⟩, ⟨by repeat (first | (with_reducible first | exact HB.out | apply below_alloc | apply pw_below_drewN | apply below_drew1) | exact HB.out)⟩⟩
              · rw [if_neg c6] at H
                have c6b0 : decide (x12_2 < 8) = false := decide_eq_false c6
                (try simp only [hl1_1] at c6b0)
                clear c6
                by_cases c7 : 0 ≤ x7_1
                · rw [if_pos c7] at H
                  have c7b0 : decide (0 ≤ x7_1) = true := decide_eq_true c7
                  (try simp only [hl1_1] at c7b0)
                  clear c7
                  by_cases c8 : x7_1 < (x1_1.length : Int)
                  · rw [if_pos c8] at H
                    have c8b0 : decide (x7_1 < (x1_1.length : Int)) = true := decide_eq_true c8
                    (try simp only [hl1_1] at c8b0)
                    clear c8
                    obtain ⟨y104, hy104⟩ : ∃ y_ : List Int, y_ = (x1_1.set (x7_1 : Int).toNat x3_2) := ⟨_, rfl⟩
                    replace H : (sums_Table_raw.l0 k2 y104 (y101.length : Int) (wrap64 (x7_1 + 1))) = some r := by first | (rw [hy104]; with_reducible exact H) | (have H2_ := (Option.bind_some _ _).symm.trans H; rw [hy104]; with_reducible exact H2_) | (have H2_ := (Option.bind_some _ _).symm.trans H; with_reducible exact H2_) | with_reducible exact H | (rw [hy104]; exact H) | exact H
                    have Ny104 := Aside0.mk hy104
                    clear hy104
                    have H' := Aside0.mk H
                    clear H
                    have p9 : 0 ≤ (x7_1 : Int) := of_decide_eq_true (by first | (with_reducible assumption) | assumption)
                    have q9 : (x7_1 : Int) < ((x1_1.length : Int) : Int) := of_decide_eq_true (by first | (with_reducible assumption) | assumption)
                    obtain ⟨go9, co9, eo9, gb9, gl9, cl9, HG9⟩ := Kd.R_form HO_1.out (by omega)
                    (first | cases eo9 | (injection eo9 with ea_ en_ ec_; (first | subst ea_ | (injection ea_ with ea_; subst ea_)); subst ec_; clear en_))
                    have GB9 := Aside0.mk gb9
                    have GG9 := Aside0.mk HG9
                    clear gb9 gl9 HG9
                    obtain ⟨hx9_0, hf9_0⟩ := Kd.R_celln 0 HO_1.out (x7_1 : Int) p9 q9
                    replace p9 := eq_true p9
                    replace q9 := eq_true q9
                    have HP10 := Kd.R_putg HO_1.out (x7_1 : Int) x3_2
                    go_wp2_with (first | ((with_reducible refine gate_store (t := 24) (p := 24) rfl ?_); refine store_event (t := 24) (p := 24) (v := ?vo_w11) (w1 := (wr.setCell ⟨go9, (x7_1 : Int).toNat, none⟩ (.int .u32 x3_2))) ?hg ?ho ?hn ?hr ?_; (case ho => rfl); (case hg => rfl); (case hn => rfl); (case hr => first | (go_simp; done) | (go_simp; rfl)); intro w11 hw; have hg : wr.grownBy w11 (some go9) := (by rw [hw]; exact HP10.2); have hp_ : Kd.R (Kd.int .u32) 24 w11 w.heap.size (fun _ => True) (.slice (some ⟨go9, 0, none⟩) x1_1.length co4) y104 := (by rw [hw, Ny104.out]; exact HP10.1); clear HP10; have n0_ := Aside0.mk (hp_); have n1_ := Aside0.mk ((by rw [hw]; exact below_set (HB.out) GB9.out : Below w.heap.size w w11)); clear HO_1; clear HB; have HO_1 := n0_; have HB := n1_; clear n0_ n1_; clear hg hw hp_))
                    (try simp only [← hl1_1])
                    go_roundg k2
                    case measure => have := HK1.out; have := HK2.out; omega
                    case rel => exact ⟨(y104), (wrap64 (x7_1 + 1)), (by first | rfl | (simp; done) | (simp [*]; done)), H', ⟨by have := HK1.out; have := HK2.out; omega⟩, ⟨by (try simp only [hl1_1]); (with_reducible repeat (first | apply Kd.R_alloc | apply Kd.R_drewN | apply Kd.R_drew)); exact HO_1.out⟩, ⟨by repeat (first | (with_reducible first | exact HB.out | apply below_alloc | apply pw_below_drewN | apply below_drew1) | exact HB.out)⟩⟩
                  · rw [if_neg c8] at H
                    exact absurd H (by simp)
                · rw [if_neg c7] at H
                  exact absurd H (by simp)
        · rw [if_neg c5] at H
          have c5b0 : decide (x7_1 < (y101.length : Int)) = false := decide_eq_false c5
          (try simp only [hl1_1] at c5b0)
          clear c5
          obtain rfl := Option.some.inj H
          go_wp2
          go_ret
          exact ⟨_, by first | rfl | (simp [errW_none, errW_some] <;> rfl) | (simp [*, errW_none, errW_some] <;> rfl), by (with_reducible repeat (first | apply Kd.R_alloc | apply Kd.R_drewN | apply Kd.R_drew)); exact HO_1.out, by repeat (first | (with_reducible first | exact HB.out | apply below_alloc | apply pw_below_drewN | apply below_drew1) | exact HB.out)⟩
  · rw [if_neg c1] at H
    exact absurd H (by simp)

def sums_Table.f : Option (List Int) := some tabL
theorem sums_Table.of {r : List Int} (h : sums_Table.f = some r) : ∃ k, sums_Table_raw.f k = some r := by
  refine ⟨4000, ?_⟩
  rw [← h]
  kernel_rfl
theorem sums_Table.calls (r : List Int) (w : World) (h : sums_Table.f  = some r) :
    Calls Try.prog 22 #[] w fun e w' => ∃ v0_ : Value, e = .returned (v0_) ∧ Kd.R (Kd.int .u32) 24 w' w.heap.size (fun _ => True) v0_ r ∧ Below w.heap.size w w' := by
  obtain ⟨k, hk⟩ := sums_Table.of h
  exact sums_Table_raw.calls k r w hk

end Go.Proofs.Yteoclecadpapfaa.G
