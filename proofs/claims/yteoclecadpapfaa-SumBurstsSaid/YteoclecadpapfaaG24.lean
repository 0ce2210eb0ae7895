/- What a call of psaltery/psalterylaw02.knows does, told by a plain Lean function of its arguments. Written by a program for this claim. -/
import Derived.Test.YteoclecadpapfaaG0
import Derived.Test.YteoclecadpapfaaG22
import Derived.Test.YteoclecadpapfaaG26
import Derived.Test.YteoclecadpapfaaM1
import Derived.Lib.SlBytesConst
namespace Go.Proofs.Yteoclecadpapfaa.G
open Go.RowKit Go.Proofs.YteoclecadpapfaaW.PrintWords Go.Proofs.YteoclecadpapfaaW.PrintLast Go.Proofs.YteoclecadpapfaaW.PrintMore
attribute [local go_sem] max2_int min2_int max_two min_two max_three min_three max_four min_four
set_option linter.unusedVariables false
set_option linter.unusedSimpArgs false

def psalterylaw02_knows.f : Option Bool := some true
theorem lit_reads (w : World) (t : TypeId) (fr : Nat × Nat) (xs : List Int) (hl : xs.length ≤ 9223372036854775807) (C : Array Value) (hC : C = (xs.map (Value.int .u8)).toArray) : Kd.C (Kd.int .u8) (w.alloc (.cells C t fr)) (some ⟨w.heap.size, 0, none⟩) xs.length xs := by
  subst hC
  refine ⟨rfl, hl, fun _ => ⟨_, rfl, fun j p hj => ⟨[.int .u8 p], rfl, rfl, fun i u hi => ?_⟩⟩⟩
  obtain ⟨rfl, rfl⟩ : i = 0 ∧ u = .int .u8 p := by
    cases i with
    | zero => simpa using hi.symm
    | succ i => simp at hi
  have h1 := heap_alloc_new w (.cells (xs.map (Value.int .u8)).toArray t fr)
  have h2 : (⟨w.heap.size, 0, none⟩ : Addr).add (j * (Kd.int .u8).sz + 0) = ⟨w.heap.size, j, none⟩ := by
    rw [add_plain]
    show (⟨_, j * 1 + 0, none⟩ : Addr) = _
    rw [Nat.mul_one, Nat.add_zero]
  rw [h2]
  simp only [World.cell?, h1]
  simp [hj]
theorem knows_vals : sumI tabL [49, 50, 51, 52, 53, 54, 55, 56, 57] = 3421780262 ∧ sumI tabL [] = 0 ∧ rd tabL 1 = 1996959894 ∧ rd tabL 255 = 755167117 := by decide +kernel
set_option maxHeartbeats 8000000 in
set_option maxRecDepth 100000 in
theorem psalterylaw02_knows.calls (r : Bool) (w : World) (h : psalterylaw02_knows.f = some r) :
    Calls Try.prog 24 #[] w fun e w' => e = .returned (.bool r) ∧ Below w.heap.size w w' := by
  injection h with h
  subst h
  have kc := fun (w : World) (C : Array Value) (n c : Nat) => Lib.run_convert_bytes_const (P := Try.prog) w 28 5 C n c Try.underlying28 Try.underlying5
  obtain ⟨t, ht⟩ : ∃ t, t = tabL := ⟨_, rfl⟩
  have hT : sums_Table.f = some t := by rw [ht]; rfl
  have hl : t.length = 256 := by rw [ht]; exact tabL_length
  have v1 : sums_Sum.f t [49, 50, 51, 52, 53, 54, 55, 56, 57] = some (3421780262, 0) := by rw [sums_Sum.f, if_pos hl, ht, knows_vals.1]
  have v2 : sums_Sum.f t [] = some (0, 0) := by rw [sums_Sum.f, if_pos hl, ht, knows_vals.2.1]
  have v3 : sums_Sum.f (t.drop 1) [] = some (0, 1) := by rw [sums_Sum.f, if_neg (by rw [List.length_drop]; omega)]
  have r1 : rd t (1 : Int) = 1996959894 := by rw [ht]; exact knows_vals.2.2.1
  have r255 : rd t (255 : Int) = 755167117 := by rw [ht]; exact knows_vals.2.2.2
  have HB := Aside0.mk (Below.refl w.heap.size w)
  have HT := Aside0.mk hT
  have V1 := Aside0.mk v1
  have V2 := Aside0.mk v2
  have V3 := Aside0.mk v3
  have R1 := Aside0.mk r1
  have R255 := Aside0.mk r255
  have HL := Aside0.mk hl
  have e1 : ((t.length : Int) != 256) = false := by rw [hl]; rfl
  have b1 : 1 < t.length := by omega
  have b2 : 255 < t.length := by omega
  clear ht hT v1 v2 v3 r1 r255 hl
  go_enter Try.func24, Try.ntmps24
  go_wp2_with (go_at_call 22; refine (sums_Table.calls t _ HT.out).mono ?_; rintro e w1 ⟨v, rfl, ho, hb⟩; obtain ⟨A, c, rfl, hcap, hC⟩ := Kd.R_reads ho; have HC := Aside0.mk hC; have HP := Aside0.mk hcap; have HB1 := Aside0.mk hb; clear ho hcap hC hb)
  have hal : ∀ o, Below w1.heap.size w1 (w1.alloc o) := fun o => (Below.refl _ _).alloc (Nat.le_refl _) o
  have HAL := Aside0.mk hal
  clear hal
  refine (sums_Sum.calls A c t (some ⟨w1.heap.size, 0, none⟩) 9 [49, 50, 51, 52, 53, 54, 55, 56, 57] 3421780262 0 _ (Kd.C_below HC.out (HAL.out _)) HP.out (lit_reads w1 5 (9, 10) [49, 50, 51, 52, 53, 54, 55, 56, 57] (by decide) _ rfl) (by decide) V1.out).mono ?_
  rintro e w2 ⟨rfl, hb⟩
  have HB2 := Aside0.mk (below_step (HAL.out _) hb)
  clear hb
  go_wp2_with fail
  refine (sums_Sum.calls A c t none 0 [] 0 0 _ (Kd.C_below HC.out HB2.out) HP.out (Kd.C_nil _ _) (by decide) V2.out).mono ?_
  rintro e w3 ⟨rfl, hb⟩
  have HB3 := Aside0.mk (below_step HB2.out hb)
  clear hb
  obtain ⟨i0, hi, _, hsz, _⟩ := info_parts info24
  have hcut := cut_from (P := Try.prog) 22 24 .i64 Try.underlying22 hi 1 hsz A t.length c 1 (by omega) (by omega)
  have hr := Kd.C_drop (m := (1 : Int).toNat) (c := c) (Kd.C_below HC.out HB3.out) (by have := HL.out; omega) HP.out
  obtain ⟨A1, hA1⟩ : ∃ A1, A1 = (if c = (1 : Int).toNat then A else (A : Option Addr).map (·.add ((1 : Int).toNat * 1))) := ⟨_, rfl⟩
  obtain ⟨d, hd⟩ : ∃ d, d = t.drop (1 : Int).toNat := ⟨_, rfl⟩
  have hln : d.length = t.length - (1 : Int).toNat := by rw [hd]; exact List.length_drop
  have hcp : d.length ≤ c - (1 : Int).toNat := by have := HP.out; omega
  rw [← hd] at hr
  replace hr : Kd.C (Kd.int .u32) w3 A1 d.length d := by rw [hA1]; exact hr
  rw [← hA1, ← hln] at hcut
  obtain ⟨c1, hc1⟩ : ∃ c1, c1 = c - (1 : Int).toNat := ⟨_, rfl⟩
  rw [← hc1] at hcut hcp
  have HR := Aside0.mk hr
  have HCP := Aside0.mk hcp
  have V3' : Aside0 (sums_Sum.f d [] = some (0, 1)) := ⟨by rw [hd]; exact V3.out⟩
  clear hr hcp hi hsz hln hA1 hd hc1
  go_wp2_with fail
  refine (sums_Sum.calls A1 c1 d none 0 [] 0 1 _ HR.out HCP.out (Kd.C_nil _ _) (by decide) V3'.out).mono ?_
  rintro e w4 ⟨rfl, hb⟩
  have HB4 := Aside0.mk (below_step HB3.out hb)
  clear hb hcut
  obtain ⟨ad, e, hx1⟩ := Kd.at_int (Kd.C_below HC.out HB4.out) 1 (by omega) (by have := HL.out; omega)
  obtain ⟨ad', e', hx2⟩ := Kd.at_int (Kd.C_below HC.out HB4.out) 255 (by omega) (by have := HL.out; omega)
  subst e
  injection e' with e'
  subst e'
  rw [R1.out] at hx1
  rw [R255.out] at hx2
  replace hx1 : w4.cell? ⟨ad.block, ad.off + 1, none⟩ = some (.int .u32 1996959894) := hx1
  replace hx2 : w4.cell? ⟨ad.block, ad.off + 255, none⟩ = some (.int .u32 755167117) := hx2
  go_wp2_with fail
  go_ret
  exact ⟨rfl, below_step HB1.out HB4.out⟩

end Go.Proofs.Yteoclecadpapfaa.G
