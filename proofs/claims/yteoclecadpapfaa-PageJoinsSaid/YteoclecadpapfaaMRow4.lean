/- Pages (a slice of structs) as an argument, opened. -/
import Derived.Test.YteoclecadpapfaaMRow3
namespace Go.Proofs.Yteoclecadpapfaa.G
open Go.ChangeShapes Go.WideShapes Go.ChangeAt Go.RowKit Go.Joins Go.Deep Go.WideElems Go.Maps Go.Proofs.YteoclecadpapfaaW.PrintWords
set_option linter.unusedSimpArgs false
instance : Inhabited S43 := ⟨z43⟩
set_option linter.unusedVariables false
set_option maxRecDepth 100000 in
theorem page_cells {H : Type} {enc : TypeId × Value → H} {W : World} {fuel : Nat} {cs : List Value} {y : DataW H × List MemPlace}
    (hf : DataW.trod enc Try.prog W 0 (fun _ => true) true fuel 43 cs = some y) (hl7 : cs.length = 7) :
    ∃ (x : S43) (A : Option Addr) (c : Nat), cs = [.int .i64 x.f0, .int .i64 x.f1, .bool x.f2, .bool x.f3, .bool x.f4, .bool x.f5, .slice A x.f6.length c] ∧ okP x.f6 ∧ x.f6.length ≤ c ∧ (Kd.slice 5 (Kd.int .u8)).C W A x.f6.length x.f6 := by
  obtain ⟨xs, n, _, hx, _, hlen, hall⟩ := DataW.trod_struct Try.underlying43 hf
  match cs, hl7 with
  | [v0, v1, v2, v3, v4, v5, v6], _ =>
   match xs, hlen with
   | [y0, y1, y2, y3, y4, y5, y6], _ =>
    have k0 := hall 0 _ rfl
    have k1 := hall 1 _ rfl
    have k2 := hall 2 _ rfl
    have k3 := hall 3 _ rfl
    have k4 := hall 4 _ rfl
    have k5 := hall 5 _ rfl
    have k6 := hall 6 _ rfl
    simp [Value.cells, cells3] at k0
    simp [Value.cells, cells3] at k1
    simp [Value.cells, cells4] at k2
    simp [Value.cells, cells4] at k3
    simp [Value.cells, cells4] at k4
    simp [Value.cells, cells4] at k5
    simp [Value.cells, cells41] at k6
    obtain ⟨s, e0, _, ws⟩ := DataW.trod_int Try.underlying3 k0
    obtain ⟨g, e1, _, wg⟩ := DataW.trod_int Try.underlying3 k1
    obtain ⟨fi, e2, _⟩ := DataW.trod_bool Try.underlying4 k2
    obtain ⟨la, e3, _⟩ := DataW.trod_bool Try.underlying4 k3
    obtain ⟨co, e4, _⟩ := DataW.trod_bool Try.underlying4 k4
    obtain ⟨mo, e5, _⟩ := DataW.trod_bool Try.underlying4 k5
    simp at e0 e1 e2 e3 e4 e5
    subst e0 e1 e2 e3 e4 e5
    rcases open_int_rows Try.underlying41 Try.underlying28 Try.underlying5 cells28 cells5 k6 with ⟨hcs, _⟩ | ⟨a, len, cap, A, L, C, Z, hcs, _, hl, hm, _, hrow⟩
    · simp at hcs
      subst hcs
      exact ⟨⟨s, g, fi, la, co, mo, []⟩, none, 0, rfl, (fun b hb => by cases hb), by simp, ⟨rfl, by simp, fun h0 => absurd h0 (by simp)⟩⟩
    · simp at hcs
      subst hcs
      obtain ⟨ps, hlen', hok, hC⟩ := parts_of hl hm hrow
      subst hlen'
      exact ⟨⟨s, g, fi, la, co, mo, ps⟩, some a, cap, rfl, hok, hl, hC⟩
set_option maxRecDepth 100000 in
theorem open_pages {H : Type} {enc : TypeId × Value → H} {W : World} {b0 : Nat} {r : Reach} {v : Value} {d : DataW H} {p : List MemPlace}
    (hv : Value.okWide Try.prog W r b0 54 v) (h : DataW.Trod enc Try.prog W 0 (fun _ => true) true 54 v d p) :
    ∃ (a : Option Addr) (c : Nat) (l : List S43), v = .slice a l.length c ∧ (∀ q ∈ l, okP q.f6) ∧ Kd.C k43 W a l.length l ∧ l.length ≤ c := by
  obtain ⟨a0, len0, cap0, rfl⟩ := okWide_slice Try.underlying54 hv
  obtain ⟨fuel, hf⟩ := h
  rcases open_slice Try.underlying54 hf with ⟨hcs, _⟩ | ⟨a, len, cap, m, n, D, Pl, hcs, _, hl, hm, hmm, _, hx⟩
  · simp [Value.cells] at hcs
    obtain ⟨rfl, rfl, rfl⟩ := hcs
    exact ⟨none, 0, [], rfl, (fun q hq => by cases hq), ⟨rfl, by simp, fun h0 => absurd h0 (by simp)⟩, by simp⟩
  · simp [Value.cells] at hcs
    obtain ⟨rfl, rfl, rfl⟩ := hcs
    simp only [if_true] at hmm
    subst hmm
    have each : ∀ i, i < len0 → ∃ x : S43, okP x.f6 ∧ ∃ cs', cs'.length = 7 ∧ k43.K W x cs' ∧ ∀ j u, cs'[j]? = some u → W.cell? (a.add (i * 7 + j)) = some u := by
      intro i hi
      obtain ⟨cs', h1, h2⟩ := hx i (by omega)
      rw [cells43] at h1
      obtain ⟨_, hlen, hcell⟩ := World.cells?_some h1
      obtain ⟨x, A, c, rfl, hok, hc, hC⟩ := page_cells h2 hlen
      refine ⟨x, hok, _, hlen, k43_mk W x hc hC, fun j u hu => ?_⟩
      have hj : j < 7 := by
        rcases Nat.lt_or_ge j 7 with h' | h'
        · exact h'
        · rw [List.getElem?_eq_none (by rw [hlen]; exact h')] at hu; cases hu
      have e := hcell j hj
      rw [Go.Deep.add_add] at e
      rw [e]
      exact hu
    obtain ⟨X, hX⟩ := choose_lt each
    have hll : ((List.range len0).map X).length = len0 := by simp
    refine ⟨some a, m, (List.range len0).map X, by rw [hll], ?_, ?_, by rw [hll]; exact hl⟩
    · intro q hq
      obtain ⟨i, hi, rfl⟩ := List.mem_map.mp hq
      exact (hX i (List.mem_range.mp hi)).1
    · rw [hll]
      refine ⟨hll, ?_, fun hp => ⟨a, rfl, fun j p hj => ?_⟩⟩
      · have : m ≤ 9223372036854775807 := Nat.le_trans hm (by decide)
        omega
      · rw [List.getElem?_map] at hj
        have hj1 : j < len0 := by
          rcases Nat.lt_or_ge j len0 with h' | h'
          · exact h'
          · rw [List.getElem?_eq_none (by simpa using h')] at hj; cases hj
        rw [List.getElem?_range hj1] at hj
        simp only [Option.map_some, Option.some.injEq] at hj
        subst hj
        obtain ⟨_, cs', h1, h2, h3⟩ := hX j hj1
        exact ⟨cs', h1, h2, h3⟩
end Go.Proofs.Yteoclecadpapfaa.G
