/- What a call of psaltery/dgram.Write does, told by a plain Lean function of its arguments. Written by a program for this claim. -/
import Derived.Test.YteoclecadpapfaaG0
import Derived.Test.YteoclecadpapfaaG26
import Derived.Test.YteoclecadpapfaaG42
import Derived.Test.YteoclecadpapfaaM5
import Derived.OneCell
import Derived.RegionTactic
import Derived.Deep.RegionLaw
namespace Go.Proofs.Yteoclecadpapfaa.G
open Go.RowKit Go.Proofs.YteoclecadpapfaaW.PrintWords Go.Proofs.YteoclecadpapfaaW.PrintLast Go.Proofs.YteoclecadpapfaaW.PrintMore
attribute [local go_sem] max2_int min2_int max_two min_two max_three min_three max_four min_four
set_option linter.unusedVariables false
set_option linter.unusedSimpArgs false

/-- Blocks of other types than 5 and 28 are kept. -/
def KeptBut (w w' : World) : Prop := ∀ (g : Nat) (cs : Array Value) (t : TypeId), t ≠ 5 → t ≠ 28 → w.heap[g]? = some (.cells cs t (0, 0)) → w'.heap[g]? = some (.cells cs t (0, 0))
theorem KeptBut.refl (w : World) : KeptBut w w := fun _ _ _ _ _ h => h
theorem KeptBut.trans {a b c : World} (h : KeptBut a b) (k : KeptBut b c) : KeptBut a c := fun g cs t h5 h28 hg => k g cs t h5 h28 (h g cs t h5 h28 hg)
theorem KeptBut.drew {a b : World} (h : KeptBut a b) : KeptBut a b.drew := h
theorem KeptBut.below {a b : World} (h : Below a.heap.size a b) : KeptBut a b := fun g cs t _ _ hg => (h.block g (blk_lt hg)).trans hg
theorem R_slice3 {e base : Nat} {w : World} {ok : Nat → Prop} {v : Value} {xs : List Int} (h : Kd.R (Kd.int .u8) e w base ok v xs) : ∃ A m c, v = .slice A m c := by
  obtain ⟨A, c, h⟩ := Kd.R_slice h
  exact ⟨A, _, c, h⟩
theorem lowI_snoc (v : Int) (n : Nat) : lowI v (n + 1) = lowI v n ++ [v / 256 ^ n % 256] := by
  induction n generalizing v with
  | zero => simp [lowI]
  | succ n ih =>
    rw [lowI, ih, lowI, List.cons_append]
    congr 2
    rw [Int.pow_succ, Int.mul_comm, Int.ediv_ediv_of_nonneg (by decide)]
set_option maxHeartbeats 8000000 in
set_option maxRecDepth 100000 in
theorem dgram_Write1.calls (gb : Nat) (v : Value) (xs : List Int) (a : Int) (n : Nat) (w0 w : World) (hB : Below w0.heap.size w0 w) (hgb : w0.heap.size ≤ gb) (hC : w.heap[gb]? = some (.cells #[v] 28 (0, 0)))
    (hv : Kd.R (Kd.int .u8) 5 w w0.heap.size (fun _ => True) v xs) (ha : 0 ≤ a ∧ a < 18446744073709551616) (hn : n ≤ 8) (hxs : xs.length ≤ 1000) :
    Calls Try.prog 68 #[.int .u64 a, .int .i64 n, .pointer (some ⟨gb, 0, none⟩)] w fun e w' => e = .returned (.tuple #[]) ∧ ∃ v', w'.heap[gb]? = some (.cells #[v'] 28 (0, 0)) ∧ Kd.R (Kd.int .u8) 5 w' w0.heap.size (fun _ => True) v' (xs ++ lowI a n) ∧ Below w0.heap.size w0 w' ∧ KeptBut w w' := by
  have HB := Aside0.mk hB
  have HC := Aside0.mk hC
  have HV := Aside0.mk hv
  have HK := Aside0.mk (KeptBut.refl w)
  clear hB hC hv
  go_enter Try.func68, Try.ntmps68
  go_wp2
  go_loopw [7] (fun i wr => ∃ (k : Nat) (v' : Value), k ≤ n ∧ i = .int .i64 k ∧ Aside0 (wr.heap[gb]? = some (.cells #[v'] 28 (0, 0))) ∧ Aside0 (Kd.R (Kd.int .u8) 5 wr w0.heap.size (fun _ => True) v' (xs ++ lowI a k)) ∧ Aside0 (Below w0.heap.size w0 wr) ∧ Aside0 (KeptBut w wr))
    (fun i _ => n - (intOf i).toNat)
  case atStart => exact ⟨0, v, Nat.zero_le _, rfl, HC, ⟨by rw [lowI, List.append_nil]; exact HV.out⟩, HB, HK⟩
  case round =>
    clear HB HC HV HK
    obtain ⟨k, v', hk, rfl, HC, HV, HB, HK⟩ := hrel
    by_cases hlt : k < n
    · have hc0 := cell_of_one HC.out
      have hf0 := free_of_one HC.out
      have hgl := blk_lt HC.out
      obtain ⟨c, hc⟩ : ∃ c : Int, IntKind.i64.wrap (8 * (k : Int)) = c := ⟨_, rfl⟩
      have hc8 : c = ((8 * k : Nat) : Int) := by rw [← hc, wraps_i64 _ (by omega) (by omega)]; omega
      have hcp : 0 ≤ c := by rw [hc8]; omega
      have hcv : Aside0 ((a / 2 ^ min c.toNat 64) % 256 = a / 256 ^ k % 256) := ⟨by rw [hc8, Int.toNat_natCast, Nat.min_eq_left (by omega), Int.pow_mul]; rfl⟩
      clear hc8
      have HCW : Aside0 (IntKind.u8.wrap (a / 2 ^ min c.toNat 64) = a / 256 ^ k % 256) := ⟨by rw [IntKind.wrap_u8]; exact hcv.out⟩
      have hll : ((xs ++ lowI a k).length + 1) * 1 ≤ 140737488355328 := by rw [List.length_append, lowI_length]; omega
      have HLL := Aside0.mk hll
      clear hll hcv
      go_wp2
      go_region_law (refine Kd.R_append_step (Kd.int .u8) (w0 := w0) (W := wr.drew) w0.heap.size ?_ (.tmp 10) (.tmp 16) 28 5 (.int .u8 0) 1 ?_ ?_ ?_ ?_ ?_ ?_ v' (xs ++ lowI a k) (IntKind.u8.wrap (a / 2 ^ min c.toNat 64)) [.int .u8 (IntKind.u8.wrap (a / 2 ^ min c.toNat 64))] (fun _ => True) (fun _ => False) ?_ ?_ ?_ ?_ ?_ ?_ ?_ ?_ ?_ ?_; (rfl); (rfl); (exact Try.underlying28); (exact info5); (rfl); (exact Nat.zero_lt_one); (exact Nat.zero_lt_one); (rfl); (rfl); (rfl); (exact (fun _ h_ => h_.elim)); (exact (fun _ _ => trivial)); (exact (Kd.R_drew HV.out)); (exact HB.out.drew); (exact HB.out.size); (exact HLL.out); intro v1 w1 hR hb hg hat; (obtain ⟨As, ms, cs, es⟩ := R_slice3 hR); subst es; have hC1 := blk_grown (w := wr.drew) HC.out hg (Kd.R_ne HV.out HC.out (by decide)); have hc1 := cell_of_one hC1; have hf1 := free_of_one hC1; have HR1 := Aside0.mk hR; have HB1 := Aside0.mk hb; have HC1 := Aside0.mk hC1; have HG1 := Aside0.mk hg; clear hR hb hg hat hC1)
      all_goals
        go_wp2
        go_roundw
        case rel =>
          refine ⟨k + 1, _, hlt, by go_num, ⟨one_setCell HC1.out⟩, ⟨?_⟩, ⟨HB1.out.setCell hgb _⟩, ⟨?_⟩⟩
          · rw [lowI_snoc, ← List.append_assoc, ← HCW.out]
            exact Kd.R_set HR1.out HC1.out (by decide) 0 _
          · refine HK.out.trans (fun g cs t h5 h28 hg => ?_)
            have h1 := blk_grown (w := wr.drew) hg HG1.out (Kd.R_ne HV.out hg (fun e => h5 e.symm))
            exact (Below.heap_setCell _ _ _ _ (blk_ne h1 HC1.out h28)).trans h1
        case measure => simp [intOf]; omega
    · go_wp2
      go_end0
      obtain rfl : k = n := by omega
      exact ⟨rfl, v', HC.out, HV.out, HB.out, HK.out⟩
def dgram_Write.f (t : List Int) (seq stamp : Int) (m : Bool) (b : List Int) : Option (List Int × Int) := if gramRight seq stamp m b = true ∧ t.length = 256 then some (gramBytes t seq stamp m b, 0) else some ([], 1)
set_option maxHeartbeats 8000000 in
set_option maxRecDepth 100000 in
theorem dgram_Write.no (A0 : Option Addr) (c0 : Nat) (l0 : List Int) (a1_0 : Int) (a1_1 : Int) (a1_2 : Bool) (A1_3 : Option Addr) (c1_3 : Nat) (l1_3 : List Int) (w : World) (hr1_3 : Kd.C (Kd.int .u8) w A1_3 l1_3.length l1_3) (hc1_3 : l1_3.length ≤ c1_3) (h : ¬ (gramRight a1_0 a1_1 a1_2 l1_3 = true ∧ l0.length = 256)) :
    Calls Try.prog 41 #[.slice A0 l0.length c0, .agg #[.int .i64 a1_0, .int .i64 a1_1, .bool a1_2, .slice A1_3 l1_3.length c1_3]] w fun e w' => e = .returned (.tuple #[.slice none 0 0, .int .i64 1]) ∧ Below w.heap.size w w' := by
  have hu59 := Try.underlying59
  have HB := Aside0.mk (Below.refl w.heap.size w)
  have HR := Aside0.mk hr1_3
  have HP := Aside0.mk hc1_3
  clear hr1_3 hc1_3
  have hal : ∀ o, Below w.heap.size w (w.alloc o) := fun o => (Below.refl _ _).alloc (Nat.le_refl _) o
  have HAL := Aside0.mk hal
  clear hal
  obtain ⟨q, hq⟩ : ∃ q, q = gramRight a1_0 a1_1 a1_2 l1_3 := ⟨_, rfl⟩
  have HQ : Aside0 (dgram_Right.f a1_0 a1_1 a1_2 l1_3 = some q) := ⟨by rw [hq]; rfl⟩
  rw [← hq] at h
  clear hq
  cases q with
  | false =>
    clear h
    go_enter Try.func41, Try.ntmps41
    go_wp2_with (go_at_call 42; refine (dgram_Right.calls a1_0 a1_1 a1_2 A1_3 c1_3 l1_3 false _ (Kd.C_below HR.out (HAL.out _)) HP.out HQ.out).mono ?_; rintro e w1 ⟨rfl, hb⟩; have HB1 := Aside0.mk (below_step (HAL.out _) hb); clear hb)
    go_ret2
    exact ⟨rfl, HB1.out⟩
  | true =>
    have e2 : ((l0.length : Int) != 256) = true := by simp; intro h1; exact h ⟨rfl, by omega⟩
    clear h
    go_enter Try.func41, Try.ntmps41
    go_wp2_with (go_at_call 42; refine (dgram_Right.calls a1_0 a1_1 a1_2 A1_3 c1_3 l1_3 true _ (Kd.C_below HR.out (HAL.out _)) HP.out HQ.out).mono ?_; rintro e w1 ⟨rfl, hb⟩; have HB1 := Aside0.mk (below_step (HAL.out _) hb); clear hb)
    go_ret2
    exact ⟨rfl, HB1.out⟩
set_option maxHeartbeats 8000000 in
set_option maxRecDepth 100000 in
theorem dgram_Write.yes (A0 : Option Addr) (c0 : Nat) (l0 : List Int) (a1_0 : Int) (a1_1 : Int) (a1_2 : Bool) (A1_3 : Option Addr) (c1_3 : Nat) (l1_3 : List Int) (w : World) (hr0 : Kd.C (Kd.int .u32) w A0 l0.length l0) (hc0 : l0.length ≤ c0) (hr1_3 : Kd.C (Kd.int .u8) w A1_3 l1_3.length l1_3) (hc1_3 : l1_3.length ≤ c1_3) (h : gramRight a1_0 a1_1 a1_2 l1_3 = true) (hl : l0.length = 256) :
    Calls Try.prog 41 #[.slice A0 l0.length c0, .agg #[.int .i64 a1_0, .int .i64 a1_1, .bool a1_2, .slice A1_3 l1_3.length c1_3]] w fun e w' => ∃ v0_ : Value, e = .returned (.tuple #[v0_, .int .i64 0]) ∧ Kd.R (Kd.int .u8) 5 w' w.heap.size (fun _ => True) v0_ (gramBytes l0 a1_0 a1_1 a1_2 l1_3) ∧ Below w.heap.size w w' := by
  have hu59 := Try.underlying59
  have hmf : ∀ (fn : Fn) (first cap : Array Value) (w : World), (Instr.makeFunc fn first cap).run Try.prog w = .ok (.func fn first cap) w := fun _ _ _ _ => rfl
  have hh := of_decide_eq_true h
  obtain ⟨hs0, hs1, ht0, ht1, hb4, _⟩ := hh
  have e1 : IntKind.u64.wrap a1_0 = a1_0 := wraps_u64 _ hs0 (by omega)
  have e2 : IntKind.u64.wrap a1_1 = a1_1 := wraps_u64 _ ht0 (by omega)
  have e3 : ((l0.length : Int) != 256) = false := by simp; omega
  have HL := Aside0.mk hl
  have HR0 := Aside0.mk hr0
  have HP0 := Aside0.mk hc0
  have HR := Aside0.mk hr1_3
  have HP := Aside0.mk hc1_3
  have HQ : Aside0 (dgram_Right.f a1_0 a1_1 a1_2 l1_3 = some true) := ⟨by rw [← h]; rfl⟩
  have HS := Aside0.mk (And.intro hs0 (And.intro hs1 (And.intro ht0 (And.intro ht1 hb4))))
  have HE1 := Aside0.mk e1
  have HE2 := Aside0.mk e2
  have HAL := Aside0.mk (fun o => (Below.refl w.heap.size w).alloc (Nat.le_refl _) o : ∀ o, Below w.heap.size w (w.alloc o))
  have HNEW := Aside0.mk (heap_alloc_new w (.cells #[.int .i64 a1_0, .int .i64 a1_1, .bool a1_2, .slice A1_3 l1_3.length c1_3] 59))
  clear hl hr0 hc0 hr1_3 hc1_3 h hs0 hs1 ht0 ht1 hb4 e1 e2
  obtain ⟨gd, hgd⟩ : ∃ gd, gd = w.heap.size := ⟨_, rfl⟩
  have HGD := Aside0.mk hgd
  go_enter Try.func41, Try.ntmps41
  go_wp2_with (go_at_call 42; refine (dgram_Right.calls a1_0 a1_1 a1_2 A1_3 c1_3 l1_3 true _ (Kd.C_below HR.out (HAL.out _)) HP.out HQ.out).mono ?_; rintro e w1 ⟨rfl, hb⟩; have BK := (hb.block _ (by simp)).trans HNEW.out; have HB1 := Aside0.mk (below_step (HAL.out _) hb); clear hb; have BKA := Aside0.mk ((Below.heap_alloc w1 (.cells #[.slice none 0 0] 28) _ (blk_lt BK)).trans BK); have hz0 := blk_cell BKA.out 0; have hz1 := blk_cell BKA.out 1; have hz2 := blk_cell BKA.out 2; have hz3 := blk_cell BKA.out 3; clear BK)
  have hge : w.heap.size ≤ w1.heap.size := HB1.out.size
  have HGE := Aside0.mk hge
  clear hge hz0 hz1 hz2 hz3
  rw [HE1.out]
  refine (dgram_Write1.calls w1.heap.size (.slice none 0 0) [] a1_0 2 w _ (HB1.out.alloc HB1.out.size _) HGE.out (heap_alloc_new w1 _) (Kd.R_nil _ _ _ _ _) (by have := HS.out; omega) (by omega) (by simp)).mono ?_
  rintro e w2 ⟨rfl, v2, hC, hR, hB, hK⟩
  have BK2 := Aside0.mk (hK _ _ 59 (by decide) (by decide) BKA.out)
  have hz1 : w2.cell? ⟨w.heap.size, 1, none⟩ = some (.int .i64 a1_1) := (blk_cell BK2.out 1).trans rfl
  have HC2 := Aside0.mk hC
  have HR2 := Aside0.mk hR
  have HB2 := Aside0.mk hB
  clear hC hR hB hK BKA HB1
  go_wp2_with fail
  clear hz1
  rw [HE2.out]
  refine (dgram_Write1.calls w1.heap.size v2 ([] ++ lowI a1_0 2) a1_1 4 w _ HB2.out HGE.out HC2.out HR2.out (by have := HS.out; omega) (by omega) (by simp [lowI_length])).mono ?_
  rintro e w3 ⟨rfl, v3, hC, hR, hB, hK⟩
  have BK3 := Aside0.mk (hK _ _ 59 (by decide) (by decide) BK2.out)
  have hz2 : w3.cell? ⟨w.heap.size, 2, none⟩ = some (.bool a1_2) := (blk_cell BK3.out 2).trans rfl
  have HC3 := Aside0.mk hC
  have HR3 := Aside0.mk hR
  have HB3 := Aside0.mk hB
  clear hC hR hB hK BK2 HC2 HR2 HB2
  obtain ⟨mk, hmk⟩ : ∃ mk : Int, mk = if a1_2 then 1 else 0 := ⟨_, rfl⟩
  have HMK := Aside0.mk hmk
  have HMB : Aside0 (0 ≤ mk ∧ mk < 18446744073709551616 ∧ lowI mk 1 = [if a1_2 then 1 else 0]) := ⟨by rw [hmk]; cases a1_2 <;> decide⟩
  clear hmk
  go_upto_if 31 with (fail)
  go_cut [8] (fun v8 wc => v8 = .int .u64 mk ∧ wc = w3)
  case first =>
    go_wp2
    all_goals
      go_meet
      case rel => exact ⟨by first | (rw [HMK.out, if_pos (by assumption)]) | (rw [HMK.out, if_neg (by assumption)]) | (rw [HMK.out]; simp [*]), rfl⟩
  case rest =>
    obtain ⟨rfl, hw⟩ := hcut
    subst hw
    go_wp2_with fail
    refine (dgram_Write1.calls w1.heap.size v3 (([] ++ lowI a1_0 2) ++ lowI a1_1 4) mk 1 w _ HB3.out HGE.out HC3.out HR3.out (by have := HMB.out; omega) (by omega) (by simp [lowI_length])).mono ?_
    rintro e w4 ⟨rfl, v4, hC, hR, hB, hK⟩
    have BK4 := Aside0.mk (hK _ _ 59 (by decide) (by decide) BK3.out)
    rw [HMB.out.2.2] at hR
    obtain ⟨h7, hh7⟩ : ∃ h7, h7 = ([] ++ lowI a1_0 2) ++ lowI a1_1 4 ++ [if a1_2 then 1 else 0] := ⟨_, rfl⟩
    rw [← hh7] at hR
    have hl7 : h7.length = 7 := by rw [hh7]; simp [lowI_length]
    have hhd : h7 ++ l1_3 = gramHead a1_0 a1_1 a1_2 l1_3 := by rw [hh7]; rfl
    have HL7 := Aside0.mk hl7
    have HHD := Aside0.mk hhd
    have HC4 := Aside0.mk hC
    have HR4 := Aside0.mk hR
    have HB4 := Aside0.mk hB
    obtain ⟨As, ms, cs, es⟩ := R_slice3 hR
    subst es
    have hz3 : w4.cell? ⟨w.heap.size, 3, none⟩ = some (.slice A1_3 l1_3.length c1_3) := (blk_cell BK4.out 3).trans rfl
    have hcb := cell_of_one hC
    have hfb := free_of_one hC
    have HRd := Aside0.mk (Kd.C_below HR.out HB4.out)
    have hC4 := hC
    clear hC hR hB hK hh7 hl7 hhd HC3 HR3 HB3 BK3
    have HCB := Aside0.mk hC4
    clear hC4
    go_wp2_with (first | (refine Kd.R_append_rows (Kd.int .u8) (w0 := w) w.heap.size rfl (.tmp 35) (.tmp 37) 28 5 (.int .u8 0) 1 rfl Try.underlying28 info5 rfl (by decide) (by omega) (.slice As ms cs) h7 l1_3 A1_3 l1_3.length c1_3 (fun _ => True) (fun _ => False) rfl rfl ?aO ?aR (fun _ _ h => h) (fun _ h => h.elim) ?aF ?aB ?aS ?aL ?_; (case aR => exact HRd.out); (case aB => exact HB4.out); (case aF => exact (fun _ _ => trivial)); (case aO => exact HR4.out); (case aS => exact HB4.out.size); (case aL => have := HL7.out; have := HS.out; omega); intro v5 w5 hR hb hg hat; (obtain ⟨As5, ms5, cs5, es5⟩ := R_slice3 hR); subst es5; have hC5 := blk_grown HCB.out hg (Kd.R_ne HR4.out HCB.out (by decide)); have hcb5 := cell_of_one hC5; have hfb5 := free_of_one hC5; rw [HHD.out] at hR; have HR5 := Aside0.mk (Kd.R_set hR hC5 (by decide) 0 (.slice As5 ms5 cs5)); have HB5 := Aside0.mk (hb.setCell HGE.out (p := ⟨w1.heap.size, 0, none⟩) (.slice As5 ms5 cs5)); have HC5 := Aside0.mk (one_setCell (u := .slice As5 ms5 cs5) hC5); clear hR hb hg hat hC5 hcb hfb))
    obtain ⟨hm5, hcap5, hrd5⟩ := Kd.R_reads' HR5.out
    subst hm5
    have HSUM : Aside0 (sums_Sum.f l0 (gramHead a1_0 a1_1 a1_2 l1_3) = some (sumI l0 (gramHead a1_0 a1_1 a1_2 l1_3), 0)) := ⟨by rw [sums_Sum.f, if_pos HL.out]⟩
    have hsr := sumI_range l0 (gramHead a1_0 a1_1 a1_2 l1_3)
    obtain ⟨s, hs⟩ : ∃ s, s = sumI l0 (gramHead a1_0 a1_1 a1_2 l1_3) := ⟨_, rfl⟩
    rw [← hs] at HSUM hsr
    have HSS := Aside0.mk hs
    have HSR := Aside0.mk hsr
    have HRD5 := Aside0.mk hrd5
    have HCP5 := Aside0.mk hcap5
    clear hsr hs hrd5 hcap5
    refine (sums_Sum.calls A0 c0 l0 As5 cs5 (gramHead a1_0 a1_1 a1_2 l1_3) s 0 _ (Kd.C_below HR0.out HB5.out) HP0.out HRD5.out HCP5.out HSUM.out).mono ?_
    rintro e w6 ⟨rfl, hb⟩
    have HB6 := Aside0.mk (below_step HB5.out hb)
    have HC6 := Aside0.mk ((hb.block _ (blk_lt HC5.out)).trans HC5.out)
    have HR6 := Aside0.mk (Kd.R_below HR5.out hb)
    have hw64 : IntKind.u64.wrap s = s := wraps_u64 _ HSR.out.1 (by have := HSR.out; omega)
    have HW64 := Aside0.mk hw64
    clear hb hw64 hcb5 hfb5 HC5 HR5 HB5
    go_wp2_with fail
    rw [HW64.out]
    refine (dgram_Write1.calls w1.heap.size (.slice As5 (gramHead a1_0 a1_1 a1_2 l1_3).length cs5) (gramHead a1_0 a1_1 a1_2 l1_3) s 4 w _ HB6.out HGE.out HC6.out HR6.out (by have := HSR.out; omega) (by omega) (by rw [gramHead_length]; have := HS.out; omega)).mono ?_
    rintro e w7 ⟨rfl, v7, hC, hR, hB, hK⟩
    have hcb7 := cell_of_one hC
    have HR7 := Aside0.mk hR
    have HB7 := Aside0.mk hB
    rw [HSS.out] at HR7
    clear hC hR hB hK
    go_wp2
    go_ret2
    exact ⟨_, rfl, HR7.out, HB7.out⟩
theorem dgram_Write.calls (A0 : Option Addr) (c0 : Nat) (l0 : List Int) (a1_0 : Int) (a1_1 : Int) (a1_2 : Bool) (A1_3 : Option Addr) (c1_3 : Nat) (l1_3 : List Int) (r1 : List Int) (r2 : Int) (w : World) (hr0 : Kd.C (Kd.int .u32) w A0 l0.length l0) (hc0 : l0.length ≤ c0) (hr1_3 : Kd.C (Kd.int .u8) w A1_3 l1_3.length l1_3) (hc1_3 : l1_3.length ≤ c1_3) (h : dgram_Write.f l0 a1_0 a1_1 a1_2 l1_3 = some (r1, r2)) :
    Calls Try.prog 41 #[.slice A0 l0.length c0, .agg #[.int .i64 a1_0, .int .i64 a1_1, .bool a1_2, .slice A1_3 l1_3.length c1_3]] w fun e w' => ∃ v0_ : Value, e = .returned (.tuple #[v0_, .int .i64 r2]) ∧ Kd.R (Kd.int .u8) 5 w' w.heap.size (fun _ => True) v0_ r1 ∧ Below w.heap.size w w' := by
  by_cases hh : gramRight a1_0 a1_1 a1_2 l1_3 = true ∧ l0.length = 256
  · rw [dgram_Write.f, if_pos hh] at h
    injection h with h
    injection h with h1 h2
    subst h1 h2
    exact dgram_Write.yes A0 c0 l0 a1_0 a1_1 a1_2 A1_3 c1_3 l1_3 w hr0 hc0 hr1_3 hc1_3 hh.1 hh.2
  · rw [dgram_Write.f, if_neg hh] at h
    injection h with h
    injection h with h1 h2
    subst h1 h2
    refine (dgram_Write.no A0 c0 l0 a1_0 a1_1 a1_2 A1_3 c1_3 l1_3 w hr1_3 hc1_3 hh).mono ?_
    rintro e w' ⟨rfl, hb⟩
    exact ⟨_, rfl, Kd.R_nil _ _ _ _ _, hb⟩

end Go.Proofs.Yteoclecadpapfaa.G
