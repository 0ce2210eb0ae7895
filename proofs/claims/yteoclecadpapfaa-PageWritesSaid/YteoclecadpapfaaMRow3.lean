/- A datagram, a table, bytes, a page as arguments, opened. -/
import Derived.Test.YteoclecadpapfaaRows
import Derived.WalkKit
import Derived.ProofKit
import Derived.OpenShut
import Derived.Lib.SmallJoins
import Derived.Test.YteoclecadpapfaaM2
import Derived.Test.YteoclecadpapfaaM13
import Derived.Deep.Matrix
namespace Go.Proofs.Yteoclecadpapfaa.G
open Go.ChangeShapes Go.WideShapes Go.RowKit Go.Joins Go.Proofs.YteoclecadpapfaaW.PrintWords
end Go.Proofs.Yteoclecadpapfaa.G
namespace Go.Proofs.Yteoclecadpapfaa.G
open Go.ChangeShapes Go.WideShapes Go.ChangeAt Go.RowKit Go.Joins Go.Proofs.YteoclecadpapfaaW.PrintWords
set_option maxRecDepth 100000 in
theorem open_table {H : Type} {enc : TypeId × Value → H} {W : World} {base b0 : Nat} {held : Bool} {r : Reach} {v : Value} {d : DataW H} {p : List MemPlace}
    (hv : Value.okWide Try.prog W r b0 22 v) (h : DataW.Trod enc Try.prog W base (fun _ => true) held 22 v d p) :
    ∃ (a : Option Addr) (c : Nat) (l : List Int), v = .slice a l.length c ∧ l.length ≤ maxLen ∧ Kd.C (Kd.int .u32) W a l.length l ∧ l.length ≤ c := by
  obtain ⟨a0, len0, cap0, rfl⟩ := okWide_slice Try.underlying22 hv
  obtain ⟨z, w0⟩ : ∃ zs : List Int, (a0 = none ∧ len0 = 0 ∧ cap0 = 0 ∧ zs = []) ∨
      ∃ x, a0 = some x ∧ len0 ≤ cap0 ∧ cap0 ≤ maxLen ∧ zs.length = cap0 ∧ (∀ i, i < zs.length → W.cell? (x.add i) = some (.int .u32 (zs.getD i 0))) ∧ ∀ n ∈ zs, (Lit.int .u32 n).wf = true := by
    obtain ⟨fuel, hf⟩ := h
    rcases open_ints Try.underlying22 Try.underlying24 (by kernel_rfl) hf with ⟨hcs, _⟩ | ⟨x, l, c, zs, hcs, _, hl, hm, hz, _, hcell, hwz⟩
    · simp [Value.cells] at hcs
      obtain ⟨rfl, rfl, rfl⟩ := hcs
      exact ⟨[], .inl ⟨rfl, rfl, rfl, rfl⟩⟩
    · simp [Value.cells] at hcs
      obtain ⟨rfl, rfl, rfl⟩ := hcs
      exact ⟨zs, .inr ⟨_, rfl, hl, hm, by simpa using hz, hcell, hwz⟩⟩
  obtain ⟨l, rfl, hr, hm, _, hc⟩ := ReadsInt.ofRowC w0
  exact ⟨a0, cap0, l, rfl, hm, Kd.C_of_reads (d := (0 : Int)) (h1 := fun _ => rfl) hr, hc⟩
end Go.Proofs.Yteoclecadpapfaa.G
namespace Go.Proofs.Yteoclecadpapfaa.G
open Go.ChangeShapes Go.WideShapes Go.ChangeAt Go.RowKit Go.Joins Go.Deep Go.WideElems Go.Maps Go.Proofs.YteoclecadpapfaaW.PrintWords
theorem array7 {α : Type} {cs : Array α} (h : cs.size = 7) : ∃ c0 c1 c2 c3 c4 c5 c6, cs = #[c0, c1, c2, c3, c4, c5, c6] := by
  obtain ⟨l⟩ := cs
  match l, h with
  | [c0, c1, c2, c3, c4, c5, c6], _ => exact ⟨c0, c1, c2, c3, c4, c5, c6, rfl⟩
theorem cells43 : Try.prog.cellsOf 43 = 7 := by kernel_rfl
theorem cells28 : Try.prog.cellsOf 28 = 1 := by kernel_rfl
theorem cells5 : Try.prog.cellsOf 5 = 1 := by kernel_rfl
/-- Parts, read out of the rows that were opened. -/
theorem parts_of {W : World} {a : Addr} {len cap : Nat} {A : Nat → Option Addr} {L C : Nat → Nat} {Z : Nat → List Int} (hl : len ≤ cap) (hcap : cap ≤ maxLen)
    (h : ∀ r, r < cap → W.cell? (a.add r) = some (.slice (A r) (L r) (C r)) ∧ L r ≤ C r ∧ C r ≤ maxLen ∧ (Z r).length = C r ∧ (∀ n ∈ Z r, (Lit.int .u8 n).wf = true) ∧ (A r = none → C r = 0) ∧ ∀ a', A r = some a' → 0 ≤ a'.block ∧ ∀ c, c < C r → W.cell? (a'.add c) = some (.int .u8 ((Z r).getD c 0))) :
    ∃ p : List (List Int), p.length = len ∧ okP p ∧ Kd.C (Kd.slice 5 (Kd.int .u8)) W (some a) p.length p := by
  refine ⟨(List.range len).map fun r => (Z r).take (L r), by simp, ?_, ?_⟩
  · intro b hb
    obtain ⟨r, hr, rfl⟩ := List.mem_map.mp hb
    have hr' := List.mem_range.mp hr
    exact okB_wf (fun n hn => (h r (by omega)).2.2.2.2.1 n (List.mem_of_mem_take hn))
  · have hlen : ((List.range len).map fun r => (Z r).take (L r)).length = len := by simp
    rw [hlen]
    refine ⟨hlen, ?_, fun hp => ⟨a, rfl, fun j p hj => ?_⟩⟩
    · have hm : cap ≤ 9223372036854775807 := Nat.le_trans hcap (by decide)
      omega
    · rw [List.getElem?_map] at hj
      have hj1 : j < len := by
        rcases Nat.lt_or_ge j len with h' | h'
        · exact h'
        · rw [List.getElem?_eq_none (by simpa using h')] at hj; cases hj
      rw [List.getElem?_range hj1] at hj
      simp only [Option.map_some, Option.some.injEq] at hj
      subst hj
      obtain ⟨h1, h2, h3, h4, h5, h6, h7⟩ := h j (by omega)
      have hl' : ((Z j).take (L j)).length = L j := by rw [List.length_take]; omega
      refine ⟨[.slice (A j) (L j) (C j)], rfl, ⟨A j, C j, by rw [hl'], by rw [hl']; exact h2, ?_⟩, fun i u hu => ?_⟩
      · rw [hl']
        refine Kd.C_of_reads (d := (0 : Int)) (h1 := fun _ => rfl) ⟨hl', ?_, fun hp0 => ?_⟩
        · have : C j ≤ 9223372036854775807 := Nat.le_trans h3 (by decide)
          omega
        · cases hA : A j with
          | none =>
            have := h6 hA
            omega
          | some a' =>
            refine ⟨a', rfl, fun c hc => ?_⟩
            rw [(h7 a' hA).2 c (by omega)]
            rw [List.getD_eq_getElem?_getD, List.getD_eq_getElem?_getD, List.getElem?_take, if_pos hc]
      · match i with
        | 0 =>
          simp only [List.getElem?_cons_zero, Option.some.injEq] at hu
          subst hu
          have e : j * (Kd.slice 5 (Kd.int .u8)).sz + 0 = j := by show j * 1 + 0 = j; omega
          rw [e]
          exact h1
        | i + 1 => simp at hu
theorem cells3 : Try.prog.cellsOf 3 = 1 := by kernel_rfl
theorem cells4 : Try.prog.cellsOf 4 = 1 := by kernel_rfl
theorem cells41 : Try.prog.cellsOf 41 = 1 := by kernel_rfl
set_option linter.unusedSimpArgs false
set_option maxRecDepth 100000 in
theorem open_page {H : Type} {enc : TypeId × Value → H} {W : World} {b0 : Nat} {r : Reach} {v : Value} {d : DataW H} {p : List MemPlace}
    (hv : Value.okWide Try.prog W r b0 43 v) (h : DataW.Trod enc Try.prog W 0 (fun _ => true) true 43 v d p) :
    ∃ (s g : Int) (fi la co mo : Bool) (a : Option Addr) (c : Nat) (ps : List (List Int)), v = .agg #[.int .i64 s, .int .i64 g, .bool fi, .bool la, .bool co, .bool mo, .slice a ps.length c] ∧ okP ps ∧ Kd.C (Kd.slice 5 (Kd.int .u8)) W a ps.length ps ∧ ps.length ≤ c ∧ ps.length ≤ 9223372036854775807 ∧ (Lit.int .i64 s).wf = true ∧ (Lit.int .i64 g).wf = true := by
  obtain ⟨cs, rfl, hsz⟩ := okWide_struct Try.underlying43 hv
  obtain ⟨v0, v1, v2, v3, v4, v5, v6, rfl⟩ := array7 (hsz.trans cells43)
  obtain ⟨fuel, hf⟩ := h
  obtain ⟨xs, n, _, hx, _, hlen, hall⟩ := DataW.trod_struct Try.underlying43 hf
  match xs, hlen with
  | [y0, y1, y2, y3, y4, y5, y6], _ =>
    have k0 := hall 0 _ rfl
    have k1 := hall 1 _ rfl
    have k2 := hall 2 _ rfl
    have k3 := hall 3 _ rfl
    have k4 := hall 4 _ rfl
    have k5 := hall 5 _ rfl
    have k6 := hall 6 _ rfl
    simp [Value.cells, cells3] at k0
    simp [Value.cells, cells3] at k1
    simp [Value.cells, cells4] at k2
    simp [Value.cells, cells4] at k3
    simp [Value.cells, cells4] at k4
    simp [Value.cells, cells4] at k5
    simp [Value.cells, cells41] at k6
    obtain ⟨s, e0, _, ws⟩ := DataW.trod_int Try.underlying3 k0
    obtain ⟨g, e1, _, wg⟩ := DataW.trod_int Try.underlying3 k1
    obtain ⟨fi, e2, _⟩ := DataW.trod_bool Try.underlying4 k2
    obtain ⟨la, e3, _⟩ := DataW.trod_bool Try.underlying4 k3
    obtain ⟨co, e4, _⟩ := DataW.trod_bool Try.underlying4 k4
    obtain ⟨mo, e5, _⟩ := DataW.trod_bool Try.underlying4 k5
    simp at e0 e1 e2 e3 e4 e5
    subst e0 e1 e2 e3 e4 e5
    rcases open_int_rows Try.underlying41 Try.underlying28 Try.underlying5 cells28 cells5 k6 with ⟨hcs, _⟩ | ⟨a, len, cap, A, L, C, Z, hcs, _, hl, hm, _, hrow⟩
    · simp at hcs
      subst hcs
      refine ⟨s, g, fi, la, co, mo, none, 0, [], rfl, (fun b hb => by cases hb), ⟨rfl, by simp, fun h0 => absurd h0 (by simp)⟩, by simp, by simp, ws, wg⟩
    · simp at hcs
      subst hcs
      obtain ⟨ps, hlen', hok, hC⟩ := parts_of hl hm hrow
      subst hlen'
      exact ⟨s, g, fi, la, co, mo, some a, cap, ps, rfl, hok, hC, hl, by have : cap ≤ 9223372036854775807 := Nat.le_trans hm (by decide)
                                                                         omega, ws, wg⟩
end Go.Proofs.Yteoclecadpapfaa.G
