/- A page that was written is read as it was, whatever bytes stand behind it: for every page and all bytes; beyond the bounds the law asks nothing. -/
import Derived.Test.YteoclecadpapfaaG21
import Derived.Test.YteoclecadpapfaaM18
namespace Go.Proofs.Yteoclecadpapfaa.Pure
open Go.RowKit Go.Proofs.Yteoclecadpapfaa.G Go.Proofs.YteoclecadpapfaaW.PrintWords Go.Proofs.YteoclecadpapfaaW.PrintLast
theorem PageBack (s g : Int) (fi la co mo : Bool) (p : List (List Int)) (l : List Int) (hp : okP p) (hl : okB l) : psalterylaw18_PageBack.f 1 s g fi la co mo p l = some true := by
  have hk : psalterylaw18_PageBack.j0 1 l true s g fi la co mo p = some true := rfl
  unfold psalterylaw18_PageBack.f psalterylaw18_great.f
  rw [Option.bind_some]
  cases hg : greatB p with
  | true => exact hk
  | false =>
    rw [if_neg (by simp)]
    by_cases h1 : (l.length : Int) > 1000
    · rw [decide_eq_true h1]; exact hk
    · rw [decide_eq_false h1]
      obtain ⟨t, ht⟩ : ∃ t, t = tabL := ⟨_, rfl⟩
      have hT : sums_Table.f = some t := by rw [ht]; rfl
      have hl0 : t.length = 256 := by rw [ht]; exact tabL_length
      clear ht hk
      obtain ⟨hs, hf⟩ := greatB_small p hg
      simp only [psalterylaw18_PageBack.j0]
      rw [if_neg (by simp), hT, Option.bind_some, page_Write_eq t s g fi la co mo p hg, Option.bind_some]
      by_cases hr : pageRight s g mo p = true ∧ t.length = 256
      · rw [if_pos hr]
        have hlen := pageBytes_length t s g fi la co mo p
        have hL := ((pageRight_iff ..).mp hr.1).2.2.2.2.1
        have hR := page_Read_page t s g fi la co mo p l hl0 hp hl (by omega) hr.1
        have e1 : ([] : List Int).length + (pageBytes t s g fi la co mo p).length < 140737488355328 := by rw [List.length_nil]; omega
        have e2 : (([] : List Int) ++ pageBytes t s g fi la co mo p).length + l.length < 140737488355328 := by rw [List.nil_append]; omega
        have e3 : ((22 + (lacesL mo p).length + p.flatten.length : Nat) : Int) = ((pageBytes t s g fi la co mo p).length : Int) := by rw [hlen]
        simp only
        rw [if_pos trivial, Option.bind_some, if_pos e1, Option.bind_some, if_pos e2, List.nil_append, hR, Option.bind_some]
        simp only [psalterylaw18_As.f, Option.bind_some]
        rw [same_self s g fi la co mo p (by have := hs.1; omega), Option.bind_some, if_pos rfl, if_pos e3, if_pos trivial]
        rfl
      · rw [if_neg hr]
        rfl
end Go.Proofs.Yteoclecadpapfaa.Pure
