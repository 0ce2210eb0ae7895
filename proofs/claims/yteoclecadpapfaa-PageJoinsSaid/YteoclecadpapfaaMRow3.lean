/- A datagram, a table, bytes, a page as arguments, opened. -/
import Derived.Test.YteoclecadpapfaaRows
import Derived.WalkKit
import Derived.ProofKit
import Derived.OpenShut
import Derived.Lib.SmallJoins
import Derived.Test.YteoclecadpapfaaM2
import Derived.Test.YteoclecadpapfaaM13
import Derived.Deep.Matrix
namespace Go.Proofs.Yteoclecadpapfaa.G
open Go.ChangeShapes Go.WideShapes Go.RowKit Go.Joins Go.Proofs.YteoclecadpapfaaW.PrintWords
end Go.Proofs.Yteoclecadpapfaa.G
namespace Go.Proofs.Yteoclecadpapfaa.G
open Go.ChangeShapes Go.WideShapes Go.ChangeAt Go.RowKit Go.Joins Go.Proofs.YteoclecadpapfaaW.PrintWords
end Go.Proofs.Yteoclecadpapfaa.G
namespace Go.Proofs.Yteoclecadpapfaa.G
open Go.ChangeShapes Go.WideShapes Go.ChangeAt Go.RowKit Go.Joins Go.Deep Go.WideElems Go.Maps Go.Proofs.YteoclecadpapfaaW.PrintWords
theorem cells43 : Try.prog.cellsOf 43 = 7 := by kernel_rfl
theorem cells28 : Try.prog.cellsOf 28 = 1 := by kernel_rfl
theorem cells5 : Try.prog.cellsOf 5 = 1 := by kernel_rfl
/-- Parts, read out of the rows that were opened. -/
theorem parts_of {W : World} {a : Addr} {len cap : Nat} {A : Nat → Option Addr} {L C : Nat → Nat} {Z : Nat → List Int} (hl : len ≤ cap) (hcap : cap ≤ maxLen)
    (h : ∀ r, r < cap → W.cell? (a.add r) = some (.slice (A r) (L r) (C r)) ∧ L r ≤ C r ∧ C r ≤ maxLen ∧ (Z r).length = C r ∧ (∀ n ∈ Z r, (Lit.int .u8 n).wf = true) ∧ (A r = none → C r = 0) ∧ ∀ a', A r = some a' → 0 ≤ a'.block ∧ ∀ c, c < C r → W.cell? (a'.add c) = some (.int .u8 ((Z r).getD c 0))) :
    ∃ p : List (List Int), p.length = len ∧ okP p ∧ Kd.C (Kd.slice 5 (Kd.int .u8)) W (some a) p.length p := by
  refine ⟨(List.range len).map fun r => (Z r).take (L r), by simp, ?_, ?_⟩
  · intro b hb
    obtain ⟨r, hr, rfl⟩ := List.mem_map.mp hb
    have hr' := List.mem_range.mp hr
    exact okB_wf (fun n hn => (h r (by omega)).2.2.2.2.1 n (List.mem_of_mem_take hn))
  · have hlen : ((List.range len).map fun r => (Z r).take (L r)).length = len := by simp
    rw [hlen]
    refine ⟨hlen, ?_, fun hp => ⟨a, rfl, fun j p hj => ?_⟩⟩
    · have hm : cap ≤ 9223372036854775807 := Nat.le_trans hcap (by decide)
      omega
    · rw [List.getElem?_map] at hj
      have hj1 : j < len := by
        rcases Nat.lt_or_ge j len with h' | h'
        · exact h'
        · rw [List.getElem?_eq_none (by simpa using h')] at hj; cases hj
      rw [List.getElem?_range hj1] at hj
      simp only [Option.map_some, Option.some.injEq] at hj
      subst hj
      obtain ⟨h1, h2, h3, h4, h5, h6, h7⟩ := h j (by omega)
      have hl' : ((Z j).take (L j)).length = L j := by rw [List.length_take]; omega
      refine ⟨[.slice (A j) (L j) (C j)], rfl, ⟨A j, C j, by rw [hl'], by rw [hl']; exact h2, ?_⟩, fun i u hu => ?_⟩
      · rw [hl']
        refine Kd.C_of_reads (d := (0 : Int)) (h1 := fun _ => rfl) ⟨hl', ?_, fun hp0 => ?_⟩
        · have : C j ≤ 9223372036854775807 := Nat.le_trans h3 (by decide)
          omega
        · cases hA : A j with
          | none =>
            have := h6 hA
            omega
          | some a' =>
            refine ⟨a', rfl, fun c hc => ?_⟩
            rw [(h7 a' hA).2 c (by omega)]
            rw [List.getD_eq_getElem?_getD, List.getD_eq_getElem?_getD, List.getElem?_take, if_pos hc]
      · match i with
        | 0 =>
          simp only [List.getElem?_cons_zero, Option.some.injEq] at hu
          subst hu
          have e : j * (Kd.slice 5 (Kd.int .u8)).sz + 0 = j := by show j * 1 + 0 = j; omega
          rw [e]
          exact h1
        | i + 1 => simp at hu
theorem cells3 : Try.prog.cellsOf 3 = 1 := by kernel_rfl
theorem cells4 : Try.prog.cellsOf 4 = 1 := by kernel_rfl
theorem cells41 : Try.prog.cellsOf 41 = 1 := by kernel_rfl
set_option linter.unusedSimpArgs false
end Go.Proofs.Yteoclecadpapfaa.G
