/- What the document's writing of a right page answers: the same bytes. -/
import Derived.Test.YteoclecadpapfaaG56
import Derived.Test.YteoclecadpapfaaM13
namespace Go.Proofs.Yteoclecadpapfaa.G
open Go.RowKit Go.Proofs.YteoclecadpapfaaW.PrintWords Go.Proofs.YteoclecadpapfaaW.PrintMore
theorem refBytes_eq (seq gran : Int) (first last cont more : Bool) (p : List (List Int)) (s : Int) (hs : smallP p) (hf : p.flatten.length ≤ 500000) (hr : pageRight seq gran more p = true) (h : 0 ≤ s ∧ s < 4294967296) : psalteryref18_bytes.f seq gran first last cont more p s = some (pageWith seq gran first last cont more p s) := by
  obtain ⟨h1, h2, h3, h4, h5, _⟩ := (pageRight_iff ..).mp hr
  unfold psalteryref18_bytes.f
  exact if_pos ⟨hs, hf, h5, ⟨h1, h2⟩, ⟨h3, h4⟩, h⟩
theorem refWriteP_eq (t : List Int) (seq gran : Int) (first last cont more : Bool) (p : List (List Int)) (ht : t.length = 256) (hs : smallP p) (hf : p.flatten.length ≤ 500000) (hok : okP p) (hr : pageRight seq gran more p = true) : psalteryref18_Write.f t seq gran first last cont more p = some (pageBytes t seq gran first last cont more p) := by
  have hL := ((pageRight_iff ..).mp hr).2.2.2.2.1
  have hsr : 0 ≤ pageSumOf t seq gran first last cont more p ∧ pageSumOf t seq gran first last cont more p < 4294967296 := sumI_range _ _
  have b0 := refBytes_eq seq gran first last cont more p 0 hs hf hr ⟨by omega, by omega⟩
  have b1 := refBytes_eq seq gran first last cont more p (pageSumOf t seq gran first last cont more p) hs hf hr hsr
  have hlen := pageWith_length seq gran first last cont more p 0
  have hA : psalteryref02_Add.f t 4294967295 (pageWith seq gran first last cont more p 0) = some (addI t 4294967295 (pageWith seq gran first last cont more p 0)) := by
    unfold psalteryref02_Add.f
    exact if_pos ⟨ht, okB_with seq gran first last cont more p 0 hok hL, ⟨by omega, by omega⟩, by omega⟩
  have hS : psalteryref18_sum.f t (pageWith seq gran first last cont more p 0) = some (pageSumOf t seq gran first last cont more p) := by
    have e : Go.bits .xor .u32 (addI t 4294967295 (pageWith seq gran first last cont more p 0)) 4294967295 = pageSumOf t seq gran first last cont more p := bits_comm_xor _ _ _
    unfold psalteryref18_sum.f
    rw [hA, Option.bind_some, e, wrap64_of (by omega) (by omega)]
  unfold psalteryref18_Write.f
  rw [b0, Option.bind_some, hS, Option.bind_some, b1, Option.bind_some]
  rfl
end Go.Proofs.Yteoclecadpapfaa.G
