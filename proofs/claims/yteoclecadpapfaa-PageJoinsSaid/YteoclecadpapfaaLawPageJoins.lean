/- The row of the law psalterylaw18_PageJoins: for every input the call returns true, and the arguments read as before. Written by a program for this claim. -/
import Derived.Test.YteoclecadpapfaaRows
import Derived.Test.YteoclecadpapfaaG20
import Derived.Test.YteoclecadpapfaaPurePageJoins
import Derived.Test.YteoclecadpapfaaMRow4
import Derived.WalkKit
import Derived.ProofKit
import Derived.OpenShut
import Derived.ShutString
import Derived.ChangeOld
import Derived.Below
import Derived.SizedLaws
import Derived.Test.YteoclecadpapfaaWSized
namespace Go.Proofs.Yteoclecadpapfaa.G
open Go.RowKit Go.Proofs.YteoclecadpapfaaW.PrintWords Go.Proofs.YteoclecadpapfaaW.PrintLast Go.Proofs.YteoclecadpapfaaW.PrintMore
/-- Pages that came in, as what may be shared. -/
theorem pages_shared {W : World} {a : Option Addr} {c : Nat} {l : List S43} (hc : l.length ≤ c) (hr : Kd.C k43 W a l.length l) : Kd.V k43 43 W W.heap.size (fun k_ => k_ < W.heap.size) (.slice a l.length c) l := Kd.V_mk hc (Kd.C_F k43_heap hr)
end Go.Proofs.Yteoclecadpapfaa.G
namespace Go.Proofs.Yteoclecadpapfaa.pageJoins
open Go.ChangeShapes Go.WideShapes Go.ChangeAt Go.RowKit
open Go.ChangeMaps (open_string shut_string)
set_option linter.unusedVariables false
theorem own : ownKnob Try.prog.godebug = none := by kernel_rfl
theorem laidOut : laidOutB Try.prog = true := by kernel_rfl
set_option maxRecDepth 100000 in
theorem lifted (os : Os) (started : os.Started) (H : Type) (enc : TypeId × Value → H) :
    ReturnsInHanded {} Try.checked os 20 .any (Rows.pageJoinsSpec.pre6 enc Try.prog Try.f20 Rows.pageJoinsRow.domain false) (Rows.pageJoinsSpec.post enc Try.prog Try.f20 false true false false) := by
  refine returnsInHanded_of_change_sized (C := Try.checked) own started (by kernel_rfl) Try.func20
    (ChangeSpec.witness6 (enc := enc) (C := Try.checked) false ⟨#[], #[.slice none 0 0], []⟩ 8 (by kernel_rfl) (by kernel_rfl) (by kernel_rfl) (by kernel_rfl)) ?_
  intro W base args ds gs before hval0 hW hcnd hsz0 _
  have hsz : (DataW.weightsEach Try.prog (Try.f20.params.toList ++ Rows.pageJoinsSpec.plain.varTypes Try.prog) (ds ++ gs)).all (· ≤ reachBytes) = true := hsz0
  have hval : ∀ (j : Nat) t v, Try.f20.params[j]? = some t → args[j]? = some v → Value.okWide Try.prog W .any base t v := hval0
  have hW' := hW
  obtain ⟨p, q, hA0, hV, rfl, hfz, hnd⟩ := hW
  have hA : DataW.TrodAll enc Try.prog W 0 (fun _ => true) true Try.f20.params.toList args.toList ds p := hA0
  rw [Try.params20] at hA hval hsz
  obtain ⟨v0, vs0, d0, ds0, p0, q0, hargs, rfl, rfl, h0, r0⟩ := trodAll_cons hA
  obtain ⟨rfl, rfl, rfl⟩ := trodAll_nil r0
  obtain rfl : args = #[v0] := by cases args; simp_all
  obtain ⟨rfl, rfl⟩ := trodVars_none hV
  have k0 := h0
  have lt0 : ∀ x ∈ p0, x.block < W.heap.size := by obtain ⟨m, hm⟩ := k0; exact DataW.trod_lt m _ _ _ hm
  obtain ⟨a, c, l, rfl, hok, hr, hc⟩ := G.open_pages (hval 0 54 v0 rfl rfl) h0
  clear hA0 hval0 hsz0 hsz
  obtain ⟨k, hk⟩ := Pure.PageJoins l
  refine (G.psalterylaw18_PageJoins.calls k (fun k_ => k_ < W.heap.size) a c l true W (G.pages_shared hc hr) hk).mono fun e W' ⟨he, bel⟩ => ?_
  subst he
  exact ⟨_, rfl, _, _, _, [], _, [], hW', trodAll_mk1 (shut_bool Try.underlying4 _), (trodAll_cons_mk (Below.trod laidOut (by kernel_rfl) (of_decide_eq_true (by kernel_rfl)) k0 bel lt0) trodAll_mk0), rfl, bel.frame _, fun h => by cases h⟩
theorem over : Rows.pageJoinsRow.holds Try.pinned (OpenSpec.ofChange Rows.pageJoinsSpec) :=
  OpenClaim.holds_of_wide 20 Try.f20 rfl rfl rfl rfl rfl rfl rfl ⟨rfl, rfl, rfl, rfl, rfl⟩ rfl rfl rfl rfl rfl (by kernel_rfl) Try.func20 (by kernel_rfl)
    (of_decide_eq_true (by kernel_rfl)) (by unfold Func.isWrapper; first | (rw [if_pos (by decide +kernel)]; kernel_rfl) | (rw [if_neg (by decide +kernel)]; exact ⟨rfl, rfl⟩))
    (fun os started H enc _ => lifted os started H enc)
theorem proved : Rows.PageJoinsSaid := over
#print axioms proved
end Go.Proofs.Yteoclecadpapfaa.pageJoins
namespace Go.Proofs.Yteoclecadpapfaa
/-- The row, under a short name, for the claim. -/
theorem pageJoins_holds : Rows.PageJoinsSaid := pageJoins.proved
end Go.Proofs.Yteoclecadpapfaa
