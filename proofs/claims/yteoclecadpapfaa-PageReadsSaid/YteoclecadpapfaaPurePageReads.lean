/- Reading by the program answers what reading by the document answers, for every table and all bytes; beyond the bounds the law asks nothing. -/
import Derived.Test.YteoclecadpapfaaG19
import Derived.Test.YteoclecadpapfaaM18
namespace Go.Proofs.Yteoclecadpapfaa.Pure
open Go.RowKit Go.Proofs.Yteoclecadpapfaa.G Go.Proofs.YteoclecadpapfaaW.PrintWords Go.Proofs.YteoclecadpapfaaW.PrintLast
theorem partsGo_count (l : List Int) : ∀ (b : List Int) (n : Nat) (o : Bool), (partsGo l b n o).1.length ≤ l.length + 1 := by
  induction l with
  | nil =>
    intro b n o
    rw [partsGo]
    split <;> simp
  | cons x l ih =>
    intro b n o
    rw [partsGo]
    split
    · have := ih b (n + x.toNat) true
      rw [List.length_cons]
      omega
    · have := ih (b.drop (n + x.toNat)) 0 false
      simp only [List.length_cons]
      omega
theorem readP_count (t b : List Int) : (readP t b).2.2.2.2.2.2.1.length ≤ b.length + 1 := by
  unfold readP
  split
  · exact Nat.zero_le _
  split
  · exact Nat.zero_le _
  split
  · exact Nat.zero_le _
  split
  · exact Nat.zero_le _
  split
  · exact Nat.zero_le _
  have := partsGo_count (lacesP b) ((b.take (endP b)).drop (22 + manyP b)) 0 false
  have h2 : (lacesP b).length ≤ b.length := by
    rw [lacesP, List.length_drop, List.length_take]
    omega
  exact Nat.le_trans this (by omega)
theorem PageReads : psalterylaw18_PageReads.Pure := by
  intro t b h1 h2 h3 h4 h5 h6
  have hb : okB b := okB_wf h6
  refine ⟨1, ?_⟩
  have hk : psalterylaw18_PageReads.j0 1 t b true = some true := rfl
  unfold psalterylaw18_PageReads.f
  by_cases hg : (b.length : Int) > 5000
  · rw [if_pos hg]; exact hk
  rw [if_neg hg]
  by_cases hg2 : (t.length : Int) > 1000
  · rw [decide_eq_true hg2]; exact hk
  rw [decide_eq_false hg2]
  clear hk
  have e1 : ([] : List Int).length + b.length < 140737488355328 := by rw [List.length_nil]; omega
  simp only [psalterylaw18_PageReads.j0]
  rw [if_neg (by simp), Option.bind_some, if_pos e1, List.nil_append]
  by_cases ht : t.length = 256
  · have hR : page_Read.f t b = some (readP t b) := by
      unfold page_Read.f
      rw [if_pos ⟨hb, by omega⟩, if_pos ht]
    have hQ : psalteryref18_Read.f t b = some (readP t b) := by
      unfold psalteryref18_Read.f
      exact if_pos ⟨hb, by omega, ht⟩
    have hc := readP_count t b
    rw [hR, Option.bind_some, if_pos (by omega), hQ, Option.bind_some]
    generalize readP t b = r at hc ⊢
    obtain ⟨s, g, fi, la, co, mo, p, n, e⟩ := r
    simp only [psalterylaw18_As.f, Option.bind_some] at hc ⊢
    rw [same_self s g fi la co mo p (by omega), Option.bind_some, if_pos rfl, if_pos trivial, if_pos trivial]
    rfl
  · have hR : page_Read.f t b = some (readZ 1) := by
      unfold page_Read.f
      rw [if_pos ⟨hb, by omega⟩, if_neg ht]
    rw [hR, Option.bind_some, if_neg (by omega)]
    simp only [readZ, psalterylaw18_As.f, Option.bind_some]
    rw [same_self 0 0 false false false false [] (by simp), Option.bind_some, if_pos rfl, if_pos trivial, if_pos trivial]
    rfl
end Go.Proofs.Yteoclecadpapfaa.Pure
