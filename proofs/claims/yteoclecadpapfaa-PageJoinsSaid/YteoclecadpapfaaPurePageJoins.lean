/- The packets of pages are those that the document says, or the error is told: for all pages; beyond the bounds the law asks nothing. -/
import Derived.Test.YteoclecadpapfaaG20
import Derived.Test.YteoclecadpapfaaM18
namespace Go.Proofs.Yteoclecadpapfaa.Pure
open Go.RowKit Go.Proofs.Yteoclecadpapfaa.G Go.Proofs.YteoclecadpapfaaW.PrintWords Go.Proofs.YteoclecadpapfaaW.PrintLast Go.Proofs.YteoclecadpapfaaW.PrintMore
theorem joinGo_len (l : List S43) : ∀ (prev : Option Int) (o : Bool) (out : List (List Int)), (∀ q ∈ l, smallP q.f6) → (joinGo l prev o out).1.length ≤ out.length + 1000 * l.length := by
  induction l with
  | nil =>
    intro prev o out _
    rw [joinGo]
    split <;> simp
  | cons p l ih =>
    intro prev o out hs
    have hp := (hs p (by simp)).1
    rw [joinGo, List.length_cons]
    split
    · simp
    split
    · simp
    have h1 := ih (some p.f0) p.f5 (addParts out p.f4 p.f6) (fun q hq => hs q (by simp [hq]))
    have h2 := addParts_length out p.f4 p.f6
    omega
def to50 (p : S43) : S50 := ⟨p.f0, p.f1, p.f2, p.f3, p.f4, p.f5, p.f6⟩
theorem to43_50 (l : List S43) : (l.map to50).map to43 = l := by
  rw [List.map_map]
  exact List.map_id'' (fun _ => rfl) l
theorem PageJoins (l : List S43) : ∃ k, psalterylaw18_PageJoins.f k l = some true := by
  unfold psalterylaw18_PageJoins.f
  by_cases h20 : (l.length : Int) > 20
  · exact ⟨0, by rw [if_pos h20]; rfl⟩
  · simp only [if_neg h20]
    refine Ev.rounds ?_
    have go : ∀ (d j : Nat), j ≤ l.length → l.length - j = d → (∀ q ∈ l.take j, smallP q.f6) → Ev (fun k => psalterylaw18_PageJoins.l0 k l ((l.take j).map to50) (j : Int)) true := by
      intro d
      induction d with
      | zero =>
        intro j hj hd hsm
        obtain rfl : j = l.length := by omega
        rw [List.take_length] at hsm ⊢
        have hJ : page_Join.f l = some (joinGo l none false []) := by
          unfold page_Join.f
          exact if_pos ⟨by omega, hsm⟩
        have hR : psalteryref18_Join.f (l.map to50) = some (joinGo l none false []) := by
          unfold psalteryref18_Join.f
          rw [if_pos ⟨by rw [List.length_map]; omega, fun q hq => by
            obtain ⟨x, hx, rfl⟩ := List.mem_map.mp hq
            exact hsm x hx⟩, to43_50]
        have hlen := joinGo_len l none false [] hsm
        rw [List.length_nil] at hlen
        refine Ev.step (f := fun _ => some true) (fun k => ?_) (Ev.now _)
        simp only [psalterylaw18_PageJoins.l0]
        rw [if_neg (Int.lt_irrefl _), hJ, Option.bind_some, hR, Option.bind_some]
        generalize joinGo l none false [] = r at hlen
        have hS : psalteryref18_SameBytes.f r.1 r.1 = some true := by
          unfold psalteryref18_SameBytes.f
          exact if_pos ⟨rfl, by omega⟩
        rw [hS, Option.bind_some, if_pos rfl, if_pos rfl]
        rfl
      | succ d ih =>
        intro j hj hd hsm
        have hj1 : j < l.length := by omega
        have g1 : (j : Int) < (l.length : Int) := by omega
        have g2 : (0 : Int) ≤ (j : Int) := by omega
        have hrd : rd_T43 l (j : Int) = l[j] := by
          unfold rd_T43
          rw [Int.toNat_natCast, List.getD_eq_getElem?_getD, List.getElem?_eq_getElem hj1]
          rfl
        cases hg : greatB (rd_T43 l (j : Int)).f6 with
        | true =>
          refine Ev.step (f := fun _ => some true) (fun k => ?_) (Ev.now _)
          simp only [psalterylaw18_PageJoins.l0]
          rw [if_pos g1, if_pos g2, psalterylaw18_great.f, Option.bind_some, hg, if_pos rfl]
          rfl
        | false =>
          obtain ⟨hs, hf⟩ := greatB_small _ hg
          have hnx := ih (j + 1) (by omega) (by omega) (fun q hq => by
            rw [List.take_succ_eq_append_getElem hj1] at hq
            rcases List.mem_append.mp hq with hq | hq
            · exact hsm q hq
            · rw [List.mem_singleton] at hq
              rw [hq, ← hrd]
              exact hs)
          rw [List.take_succ_eq_append_getElem hj1, List.map_append, List.map_singleton, ← hrd] at hnx
          have g3 : ((l.take j).map to50).length < 2932031007402 := by rw [List.length_map, List.length_take]; omega
          refine Ev.step (fun k => ?_) hnx
          simp only [psalterylaw18_PageJoins.l0]
          rw [if_pos g1, if_pos g2, psalterylaw18_great.f, Option.bind_some, hg, if_neg (by simp), psalterylaw18_As.f, Option.bind_some, if_pos g3, wsucc j (by omega)]
          rfl
    exact go l.length 0 (by omega) (by omega) (fun q hq => by simp at hq)
end Go.Proofs.Yteoclecadpapfaa.Pure
