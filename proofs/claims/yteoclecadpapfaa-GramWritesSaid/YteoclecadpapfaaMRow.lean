/- A datagram (a struct by value: two numbers, a bool, bytes) as an argument, opened. -/
import Derived.Test.YteoclecadpapfaaRows
import Derived.WalkKit
import Derived.ProofKit
import Derived.OpenShut
import Derived.Lib.SmallJoins
import Derived.Test.YteoclecadpapfaaM2
namespace Go.Proofs.Yteoclecadpapfaa.G
open Go.ChangeShapes Go.WideShapes Go.RowKit Go.Joins Go.Proofs.YteoclecadpapfaaW.PrintWords
theorem cells59 : Try.prog.cellsOf 59 = 4 := by kernel_rfl
set_option maxRecDepth 100000 in
theorem open_gram {H : Type} {enc : TypeId × Value → H} {W : World} {base b0 : Nat} {held : Bool} {r : Reach} {v : Value} {d : DataW H} {p : List MemPlace}
    (hv : Value.okWide Try.prog W r b0 59 v) (h : DataW.Trod enc Try.prog W base (fun _ => true) held 59 v d p) :
    ∃ (s t : Int) (m : Bool) (a : Option Addr) (c : Nat) (l : List Int), v = .agg #[.int .i64 s, .int .i64 t, .bool m, .slice a l.length c] ∧ (Lit.int .i64 s).wf = true ∧ (Lit.int .i64 t).wf = true ∧ okB l ∧ l.length ≤ maxLen ∧ Kd.C (Kd.int .u8) W a l.length l ∧ l.length ≤ c := by
  obtain ⟨v0, v1, v2, v3, y0, y1, y2, y3, n, rfl, rfl, rfl, h0, h1, h2, h3⟩ := open_agg4 Try.underlying59 (by kernel_rfl) cells59 hv h
  obtain ⟨s, e0, rfl, ws⟩ := DataW.trod_int Try.underlying3 h0
  obtain ⟨t, e1, rfl, wt⟩ := DataW.trod_int Try.underlying3 h1
  obtain ⟨m, e2, rfl⟩ := DataW.trod_bool Try.underlying4 h2
  simp at e0 e1 e2
  subst e0 e1 e2
  obtain ⟨a, len, cap, zs, rfl, w0⟩ : ∃ a len cap, ∃ zs : List Int, v3 = .slice a len cap ∧ ((a = none ∧ len = 0 ∧ cap = 0 ∧ zs = []) ∨
      ∃ x, a = some x ∧ len ≤ cap ∧ cap ≤ maxLen ∧ zs.length = cap ∧ (∀ i, i < zs.length → W.cell? (x.add i) = some (.int .u8 (zs.getD i 0))) ∧ ∀ n ∈ zs, (Lit.int .u8 n).wf = true) := by
    rcases open_ints Try.underlying28 Try.underlying5 (by kernel_rfl) h3 with ⟨hcs, _⟩ | ⟨x, l, c, zs, hcs, _, hl, hm, hz, _, hcell, hwz⟩
    · simp at hcs
      exact ⟨none, 0, 0, [], hcs, .inl ⟨rfl, rfl, rfl, rfl⟩⟩
    · simp at hcs
      exact ⟨some x, l, c, zs, hcs, .inr ⟨x, rfl, hl, hm, by simpa using hz, hcell, hwz⟩⟩
  obtain ⟨l, rfl, hr, hm, hw, hc⟩ := ReadsInt.ofRowC w0
  exact ⟨s, t, m, a, cap, l, rfl, ws, wt, okB_wf hw, hm, Kd.C_of_reads (d := (0 : Int)) (h1 := fun _ => rfl) hr, hc⟩
end Go.Proofs.Yteoclecadpapfaa.G
