/- What a reading's bounds say of its numbers. -/
import Derived.Test.YteoclecadpapfaaM1
import GoSem.Claim
namespace Go.Proofs.Yteoclecadpapfaa.G
open Go.RowKit Go.Proofs.YteoclecadpapfaaW.PrintWords
theorem wf_u8 {x : Int} (h : (Lit.int .u8 x).wf = true) : 0 ≤ x ∧ x < 256 := by
  simp [Lit.wf, IntKind.min, IntKind.max, IntKind.bits, IntKind.signed] at h
  omega
theorem okB_wf {l : List Int} (h : ∀ x ∈ l, (Lit.int .u8 x).wf = true) : okB l := fun x hx => wf_u8 (h x hx)
theorem okB_append {a b : List Int} (ha : okB a) (hb : okB b) : okB (a ++ b) := fun x hx => (List.mem_append.mp hx).elim (ha x) (hb x)
theorem okB_take {a : List Int} (ha : okB a) (n : Nat) : okB (a.take n) := fun x hx => ha x (List.mem_of_mem_take hx)
theorem okB_drop {a : List Int} (ha : okB a) (n : Nat) : okB (a.drop n) := fun x hx => ha x (List.mem_of_mem_drop hx)
def okT (t : List Int) : Prop := ∀ x ∈ t, 0 ≤ x ∧ x < 4294967296
instance (b : List Int) : Decidable (okB b) := by unfold okB; infer_instance
instance (b : List Int) : Decidable (okT b) := by unfold okT; infer_instance
theorem rd_mem {p : Int → Prop} {l : List Int} (h : ∀ x ∈ l, p x) (i : Int) (h1 : i.toNat < l.length) : p (rd l i) := by
  unfold rd
  rw [List.getD_eq_getElem?_getD, List.getElem?_eq_getElem h1]
  exact h _ (List.getElem_mem h1)
theorem addI_take {t : List Int} (k : Nat) (c : Int) (b : List Int) (hk : k < b.length) : addI t c (b.take (k + 1)) = addS t (addI t c (b.take k)) (rd b k) := addI_snoc t c b k hk
theorem addS_range (t : List Int) (c x : Int) : 0 ≤ addS t c x ∧ addS t c x < 4294967296 := bits_u32_range _ _ _
theorem addI_range (t : List Int) (b : List Int) (c : Int) (hc : 0 ≤ c ∧ c < 4294967296) : 0 ≤ addI t c b ∧ addI t c b < 4294967296 := by
  induction b generalizing c with
  | nil => exact hc
  | cons x b ih => exact ih _ (addS_range t c x)
end Go.Proofs.Yteoclecadpapfaa.G
