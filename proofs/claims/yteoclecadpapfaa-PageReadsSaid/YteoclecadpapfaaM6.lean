/- A slice that is read and may be shared lies in none of the blocks that it may not touch. -/
import Derived.Test.YteoclecadpapfaaWMore
import Derived.Test.YteoclecadpapfaaWShare
namespace Go.Proofs.Yteoclecadpapfaa.G
open Go.RowKit Go.Proofs.YteoclecadpapfaaW.PrintWords Go.Proofs.YteoclecadpapfaaW.PrintMore
theorem V_away8 {e base g : Nat} {W : World} {ok : Nat → Prop} {ad : Addr} {n c : Nat} {xs : List Int} (h : Kd.V (Kd.int .u8) e W base ok (.slice (some ad) n c) xs) (hp : 0 < xs.length) (hok : ∀ k, ok k → k ≠ g) : some g ≠ (Value.slice (some ad) n c).ownBlock := by
  intro he
  have hg : g = ad.block := by
    simp only [Value.ownBlock] at he
    injection he
  obtain ⟨A, c', hv, hl, hF⟩ := h
  injection hv with hA hn hc
  subst hA
  have hC := hF { W with heap := W.heap.setIfInBounds g (.map #[] 0) } (fun k hk hlt => by
    show (W.heap.setIfInBounds g _)[k]? = _
    rw [Array.getElem?_setIfInBounds_ne (hok k hk).symm])
  obtain ⟨ad', e', hx⟩ := Kd.at_int hC 0 (by omega) (by omega)
  injection e' with e'
  subst e'
  have hx0 : ({ W with heap := W.heap.setIfInBounds g (.map #[] 0) } : World).cell? ad = some (.int .u8 (rd xs 0)) := by
    have h_ := hx
    rw [show ((0 : Int)).toNat = 0 from rfl, Addr.add_zero'] at h_
    exact h_
  have hlt := World.block_lt_of_cell? _ _ hx0
  have h1 : (W.heap.setIfInBounds g (.map #[] 0))[ad.block]? = some (.map #[] 0) := by
    rw [hg]
    have hlt' : g < W.heap.size := by rw [hg]; simpa using hlt
    rw [hg] at hlt'
    exact Array.getElem?_setIfInBounds_self_of_lt hlt'
  simp [World.cell?, h1] at hx0
end Go.Proofs.Yteoclecadpapfaa.G
