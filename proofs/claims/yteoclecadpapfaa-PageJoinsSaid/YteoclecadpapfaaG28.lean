/- What a call of psaltery/sums.Add does, told by a plain Lean function of its arguments. Written by a program for this claim. -/
import Derived.Test.YteoclecadpapfaaG0
import Derived.Test.YteoclecadpapfaaM1
import Derived.OneCell
import Derived.RegionTactic
namespace Go.Proofs.Yteoclecadpapfaa.G
open Go.RowKit Go.Proofs.YteoclecadpapfaaW.PrintWords Go.Proofs.YteoclecadpapfaaW.PrintLast Go.Proofs.YteoclecadpapfaaW.PrintMore
attribute [local go_sem] max2_int min2_int max_two min_two max_three min_three max_four min_four
set_option linter.unusedVariables false
set_option linter.unusedSimpArgs false

def sums_Add.f (t : List Int) (c : Int) (b : List Int) : Option (Int × Int) := if t.length = 256 then some (addI t c b, 0) else some (0, 1)
set_option maxHeartbeats 8000000 in
set_option maxRecDepth 100000 in
theorem sums_Add1.calls (bc bt : Nat) (A0 : Option Addr) (cap : Nat) (t : List Int) (c x : Int) (w : World) (hl : t.length = 256) (hC : w.heap[bc]? = some (.cells #[.int .u32 c] 24 (0, 0))) (hT : w.heap[bt]? = some (.cells #[.slice A0 t.length cap] 22 (0, 0))) (hr : Kd.C (Kd.int .u32) w A0 t.length t) :
    Calls Try.prog 61 #[.int .u8 x, .pointer (some ⟨bc, 0, none⟩), .pointer (some ⟨bt, 0, none⟩)] w fun e w' => e = .returned (.tuple #[]) ∧ Drawn0 (w.setCell ⟨bc, 0, none⟩ (.int .u32 (addS t c x))) w' := by
  have hc0 := cell_of_one hC
  have hf0 := free_of_one hC
  have ht0 := cell_of_one hT
  obtain ⟨hi0, hi1⟩ := bits_u8_range .xor (c % 256) x
  obtain ⟨ad, e, hx⟩ := Kd.at_int hr (Go.bits .xor .u8 (c % 256) x) hi0 (by rw [hl]; exact hi1)
  subst e
  rw [hl] at hT ht0
  clear hC hT hr hl
  go_enter Try.func61, Try.ntmps61
  go_wp2
  go_region
  all_goals (go_end0; exact ⟨rfl, ⟨1, rfl⟩⟩)
theorem bc_ne_bt {w : World} {bc bt : Nat} {u v : Value} (hC : w.heap[bc]? = some (.cells #[u] 24 (0, 0))) (hT : w.heap[bt]? = some (.cells #[v] 22 (0, 0))) : bt ≠ bc := by
  rintro rfl
  rw [hC] at hT
  injection hT with hT
  injection hT with _ hT
  exact absurd hT (by decide)
set_option maxHeartbeats 8000000 in
set_option maxRecDepth 100000 in
theorem sums_each_add.calls (bc bt : Nat) (A0 : Option Addr) (cap : Nat) (t : List Int) (c : Int) (A2 : Option Addr) (c2 : Nat) (b : List Int) (w0 w : World) (hl : t.length = 256) (hB : Below w0.heap.size w0 w) (hbc : w0.heap.size ≤ bc)
    (hC : w.heap[bc]? = some (.cells #[.int .u32 c] 24 (0, 0))) (hT : w.heap[bt]? = some (.cells #[.slice A0 t.length cap] 22 (0, 0))) (hr : Kd.C (Kd.int .u32) w0 A0 t.length t) (hr2 : Kd.C (Kd.int .u8) w0 A2 b.length b) :
    Calls Try.prog 60 #[.slice A2 b.length c2, .func (.func 61) #[] #[.pointer (some ⟨bc, 0, none⟩), .pointer (some ⟨bt, 0, none⟩)]] w fun e w' =>
      e = .returned (.tuple #[]) ∧ w'.heap[bc]? = some (.cells #[.int .u32 (addI t c b)] 24 (0, 0)) ∧ Below w0.heap.size w0 w' := by
  have hlen : b.length ≤ 9223372036854775807 := hr2.2.1
  have HC := Aside0.mk hC
  have HT := Aside0.mk hT
  have HB := Aside0.mk hB
  have HR := Aside0.mk hr
  have HR2 := Aside0.mk hr2
  have HL := Aside0.mk hl
  clear hC hT hB hr hr2 hl
  go_enter Try.func60, Try.ntmps60
  go_wp2
  go_loopw [8] (fun i wr => ∃ k : Nat, k ≤ b.length ∧ i = .int .i64 k ∧ Aside0 (wr.heap[bc]? = some (.cells #[.int .u32 (addI t c (b.take k))] 24 (0, 0))) ∧ Aside0 (wr.heap[bt]? = some (.cells #[.slice A0 t.length cap] 22 (0, 0))) ∧ Aside0 (Below w0.heap.size w0 wr))
    (fun i _ => b.length - (intOf i).toNat)
  case atStart => exact ⟨0, Nat.zero_le _, rfl, HC, HT, HB⟩
  case round =>
    obtain ⟨k, hk, rfl, HC1, HT1, HB1⟩ := hrel
    by_cases hlt : k < b.length
    · obtain ⟨ad, e, hx⟩ := Kd.at_int (Kd.C_below HR2.out HB1.out) (k : Int) (by omega) (by omega)
      subst e
      rw [Int.toNat_natCast] at hx
      have hb : k + 1 ≤ b.length := hlt
      go_wp2_with (go_at_call 61; refine (sums_Add1.calls bc bt A0 cap t _ _ _ HL.out HC1.out HT1.out (Kd.C_below HR.out HB1.out)).mono ?_; rintro e w' ⟨rfl, ⟨m, rfl⟩⟩)
      go_roundw
      case rel => exact ⟨k + 1, hb, by go_num, ⟨by rw [addI_snoc t c b k hlt]; exact one_setCell HC1.out⟩, ⟨(Below.heap_setCell _ _ _ _ (bc_ne_bt HC1.out HT1.out)).trans HT1.out⟩, ⟨pw_below_drewN (HB1.out.setCell hbc _) m⟩⟩
      case measure => simp [intOf]; omega
    · go_wp2
      go_end0
      obtain rfl : k = b.length := by omega
      rw [List.take_length] at HC1
      exact ⟨rfl, HC1.out, HB1.out⟩
theorem blk_new2 (w : World) (o o' : Obj) : ((w.alloc o).alloc o').heap[w.heap.size]? = some o := by
  rw [Below.heap_alloc _ _ _ (by simp)]
  exact heap_alloc_new w o
theorem blk_new1 (w : World) (o o' : Obj) : ((w.alloc o).alloc o').heap[w.heap.size + 1]? = some o' := by
  have := heap_alloc_new (w.alloc o) o'
  simpa using this
set_option maxHeartbeats 8000000 in
set_option maxRecDepth 100000 in
theorem sums_Add.calls (A0 : Option Addr) (c0 : Nat) (l0 : List Int) (a1 : Int) (A2 : Option Addr) (c2 : Nat) (l2 : List Int) (r1 : Int) (r2 : Int) (w : World) (hr0 : Kd.C (Kd.int .u32) w A0 l0.length l0) (hc0 : l0.length ≤ c0) (hr2 : Kd.C (Kd.int .u8) w A2 l2.length l2) (hc2 : l2.length ≤ c2) (h : sums_Add.f l0 a1 l2 = some (r1, r2)) :
    Calls Try.prog 28 #[.slice A0 l0.length c0, .int .u32 a1, .slice A2 l2.length c2] w fun e w' => e = .returned (.tuple #[.int .u32 r1, .int .i64 r2]) ∧ Below w.heap.size w w' := by
  have hmf : ∀ (fn : Fn) (first cap : Array Value) (w : World), (Instr.makeFunc fn first cap).run Try.prog w = .ok (.func fn first cap) w := fun _ _ _ _ => rfl
  have HR0 := Aside0.mk hr0
  have HR2 := Aside0.mk hr2
  clear hr0 hr2 hc0 hc2
  have hB : Below w.heap.size w ((w.alloc (.cells #[.slice A0 l0.length c0] 22)).alloc (.cells #[.int .u32 a1] 24)) := ((Below.refl _ _).alloc (Nat.le_refl _) _).alloc (by simp) _
  by_cases hl : l0.length = 256
  · rw [sums_Add.f, if_pos hl] at h
    injection h with h
    injection h with h1 h2
    subst h1 h2
    have HL := Aside0.mk hl
    have HB := Aside0.mk hB
    have e1 : (l0.length : Int) = 256 := by omega
    have e2 : ((l0.length : Int) != 256) = false := by rw [e1]; rfl
    clear hl hB e1
    go_enter Try.func28, Try.ntmps28
    go_wp2_with (go_at_call 60; refine (sums_each_add.calls (w.heap.size + 1) w.heap.size A0 c0 l0 a1 A2 c2 l2 w _ HL.out HB.out (by omega) (blk_new1 _ _ _) (blk_new2 _ _ _) HR0.out HR2.out).mono ?_; rintro e w1 ⟨rfl, hC, hB1⟩; have hc := cell_of_one hC; have HB1 := Aside0.mk hB1; clear hC hB1)
    go_ret2
    exact ⟨rfl, HB1.out⟩
  · rw [sums_Add.f, if_neg hl] at h
    injection h with h
    injection h with h1 h2
    subst h1 h2
    have e2 : ((l0.length : Int) != 256) = true := by simp; omega
    have HB := Aside0.mk hB
    clear hl hB
    go_enter Try.func28, Try.ntmps28
    go_wp2
    go_ret2
    exact ⟨rfl, HB.out⟩

end Go.Proofs.Yteoclecadpapfaa.G
