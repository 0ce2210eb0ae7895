/- Cuts with a capacity of their own; four bytes copied into a row; a byte appended to a constant's bytes. -/
import Derived.Test.YteoclecadpapfaaWMore
import Derived.Laws.CopyOwn
import Derived.Lib.SlBytesConst
import Derived.ArgAppend
namespace Go.Proofs.Yteoclecadpapfaa.G
open Go.RowKit Go.Proofs.YteoclecadpapfaaW.PrintWords Go.Proofs.YteoclecadpapfaaW.PrintMore
section
variable {P : Program}
theorem cut_to3 (t e : TypeId) (kh km : IntKind) {i : TypeInfo} (ht : P.underlying t = some (.slice e)) (hi : P.info? e = some i) (A : Option Addr) (n c : Nat) (j : Int) (h0 : 0 ≤ j) (hm : j ≤ n) (hc : n ≤ c) :
    ∀ W : World, (Instr.slice t (.slice A n c) none (some (.int kh j)) (some (.int km j))).run P W = .ok (.slice A j.toNat j.toNat) W := by
  intro W
  have hel : P.elem t = e := by simp [Program.elem, ht]
  have hu : P.underlying t = some (.slice (P.elem t)) := by rw [hel]; exact ht
  have ha : (A.map fun x => x.add 0) = A := by cases A <;> simp [Addr.add]
  rw [run_slice_hm W t A n c hu kh km j j h0 (by omega) (by omega), hel]
  simp [sizeOf, typeInfo, hi, sliced, Result.andThen, ha]
theorem cut_mid3 (t e : TypeId) (kl kh km : IntKind) {i : TypeInfo} (ht : P.underlying t = some (.slice e)) (hi : P.info? e = some i) (size : Nat) (hsz : i.size = size) (A : Option Addr) (n c : Nat) (lo hi' : Int) (h0 : 0 ≤ lo) (h1 : lo ≤ hi') (h2 : hi' ≤ n) (hc : n ≤ c) :
    ∀ W : World, (Instr.slice t (.slice A n c) (some (.int kl lo)) (some (.int kh hi')) (some (.int km hi'))).run P W = .ok (.slice (if hi'.toNat = lo.toNat then A else A.map (·.add (lo.toNat * size))) (hi'.toNat - lo.toNat) (hi'.toNat - lo.toNat)) W := by
  intro W
  have hel : P.elem t = e := by simp [Program.elem, ht]
  have hu : P.underlying t = some (.slice (P.elem t)) := by rw [hel]; exact ht
  rw [run_slice_lhm W t A n c hu kl kh km lo hi' hi' h0 h1 (by omega) (by omega), hel]
  simp [sizeOf, typeInfo, hi, hsz, sliced, Result.andThen]
end
theorem C_mid3 {α : Type} {k : Kd α} {w : World} {A : Option Addr} {xs : List α} {lo hi : Nat} (h : k.C w A xs.length xs) (h1 : lo ≤ hi) (h2 : hi ≤ xs.length) : k.C w (if hi = lo then A else A.map (·.add (lo * k.sz))) ((xs.take hi).drop lo).length ((xs.take hi).drop lo) := by
  have hl : (xs.take hi).length = hi := by rw [List.length_take]; omega
  exact Kd.C_drop (Kd.C_take h h2) (by omega) (by omega)
theorem len_mid (l : List Int) (x j : Int) (h : x ≤ (l.length : Int)) : ((l.take x.toNat).drop j.toNat).length = x.toNat - j.toNat := by
  rw [List.length_drop, List.length_take]
  omega
end Go.Proofs.Yteoclecadpapfaa.G
namespace Go.Proofs.Yteoclecadpapfaa.G
open Go.RowKit Go.Proofs.YteoclecadpapfaaW.PrintWords Go.Proofs.YteoclecadpapfaaW.PrintMore
def put4 (xs y : List Int) : List Int := (((xs.set 17 (rd y 0)).set 18 (rd y 1)).set 19 (rd y 2)).set 20 (rd y 3)
def W4 (w : World) (g : Nat) (y : List Int) : World := (((w.setCell ⟨g, 17, none⟩ (.int .u8 (rd y 0))).setCell ⟨g, 18, none⟩ (.int .u8 (rd y 1))).setCell ⟨g, 19, none⟩ (.int .u8 (rd y 2))).setCell ⟨g, 20, none⟩ (.int .u8 (rd y 3))
theorem W4_own {e base g cap : Nat} {ok : Nat → Prop} {W : World} {xs y : List Int} (h : Kd.R (Kd.int .u8) e W base ok (.slice (some ⟨g, 0, none⟩) xs.length cap) xs) : Kd.R (Kd.int .u8) e (W4 W g y) base ok (.slice (some ⟨g, 0, none⟩) xs.length cap) (put4 xs y) := by
  have h1 := Kd.R_putn h 17 (rd y 0)
  have h2 := Kd.R_putn h1 18 (rd y 1)
  have h3 := Kd.R_putn h2 19 (rd y 2)
  exact Kd.R_putn h3 20 (rd y 3)
theorem R_addr {e base n : Nat} {ok : Nat → Prop} {W : World} {A : Option Addr} {cap : Nat} {xs : List Int} (h : Kd.R (Kd.int .u8) e W base ok (.slice A n cap) xs) (hx : 0 < xs.length) : ∃ g, A = some ⟨g, 0, none⟩ ∧ base ≤ g ∧ n = xs.length := by
  obtain ⟨h1, h2⟩ := Kd.own_of_R h
  rcases h2 with ⟨_, h3⟩ | ⟨g, cap', cur, e1, hb, _⟩
  · omega
  · simp only [Value.slice.injEq] at e1
    obtain ⟨rfl, rfl, rfl⟩ := e1
    exact ⟨g, rfl, hb, rfl⟩
theorem W4_run {e base g cap c1 c2 : Nat} {ok : Nat → Prop} {W : World} {xs y : List Int} {B : Option Addr} (h : Kd.R (Kd.int .u8) e W base ok (.slice (some ⟨g, 0, none⟩) xs.length cap) xs) (hx : 21 ≤ xs.length)
    (hs : Kd.C (Kd.int .u8) W B y.length y) (hy : y.length = 4) (P : Program) (ty : TypeId) (hu : P.underlying 28 = some (.slice 5)) (hsz : (P.info? 5).map (·.size) = some 1) :
    (Builtin.copy_ #[28, 28] ty #[.slice (some ⟨g, 17, none⟩) 4 c1, .slice B y.length c2]).run P W = .ok (goInt 4) (W4 W g y) := by
  obtain ⟨a, rfl, _⟩ := Kd.at_int hs 0 (by omega) (by omega)
  have hat : ∀ j : Nat, j < 4 → W.cell? (a.add j) = some (.int .u8 (rd y (j : Int))) := fun j hj => by
    obtain ⟨_, e1, h'⟩ := Kd.at_int hs (j : Int) (by omega) (by omega)
    cases e1
    exact h'
  have hcf : ∀ j : Nat, j < 4 → W.cell? ⟨g, 17 + j, none⟩ = some (.int .u8 (rd xs ((17 + j : Nat) : Int))) ∧ W.frozen? ⟨g, 17 + j, none⟩ = false := fun j hj => Kd.R_cell (0 : Int) h ((17 + j : Nat) : Int) (by omega) (by omega)
  have hrun := run_copy_cells (P := P) W 28 28 ty 5 g 17 4 c1 a y.length c2 [.int .u8 (rd y 0), .int .u8 (rd y 1), .int .u8 (rd y 2), .int .u8 (rd y 3)] hu hsz (by rw [hy]; rfl)
    (fun j v hj => by
      match j with
      | 0 => simp at hj; subst hj; exact hat 0 (by decide)
      | 1 => simp at hj; subst hj; exact hat 1 (by decide)
      | 2 => simp at hj; subst hj; exact hat 2 (by decide)
      | 3 => simp at hj; subst hj; exact hat 3 (by decide)
      | j + 4 => simp at hj)
    (fun j hj => by rw [(hcf j hj).1]; rfl) (fun j hj => (hcf j hj).2)
    (fun v hv => by
      simp only [List.mem_cons, List.not_mem_nil, or_false] at hv
      rcases hv with rfl | rfl | rfl | rfl <;> rfl)
  exact hrun
theorem step_copy4 {P : Program} {ops : Array Oper} {o : Oper} {a : Act} {K : Act → World → Prop} {Q : Exit → Act → World → Prop} {E : Prop} {base g cap c1 c2 : Nat} {ok : Nat → Prop} {W : World} {xs y : List Int} {B : Option Addr}
    (hgd : o.guard = none) (d s : Operand) (ho : o.op = .call { callee := .builtin .copy, args := #[d, s], argTypes := #[28, 28] }) (hu : P.underlying 28 = some (.slice 5)) (hsz : (P.info? 5).map (·.size) = some 1)
    (h : Kd.R (Kd.int .u8) 5 W base ok (.slice (some ⟨g, 0, none⟩) xs.length cap) xs) (hx : 21 ≤ xs.length) (hs : Kd.C (Kd.int .u8) W B y.length y) (hy : y.length = 4)
    (hd : a.eval d = .slice (some ⟨g, 17, none⟩) 4 c1) (hs' : a.eval s = .slice B y.length c2)
    (hk : K (a.put o.dst (goInt 4)) (W4 W g y)) : if Region.wanted o (yielded ops a.tmps) = true then Oper.wp P o a W K Q else E := by
  have hw : Region.wanted o (yielded ops a.tmps) = true := by simp [Region.wanted, hgd]
  rw [if_pos hw]
  have hrun := W4_run (c1 := c1) (c2 := c2) h hx hs hy P o.type hu hsz
  unfold Oper.wp
  simp [execOp, ho, resolve, invoke, builtin, hd, hs', hrun, Result.andThen]
  exact hk
theorem W4_below {base g : Nat} {w0 W : World} {y : List Int} (hb : Below base w0 W) (hg : base ≤ g) : Below base w0 (W4 W g y) := (((hb.setCell hg _).setCell hg _).setCell hg _).setCell hg _
theorem alloc_sz (w : World) (o : Obj) : (w.alloc o).heap.size = w.heap.size + 1 := by
  show (w.heap.push o).size = _
  exact Array.size_push _
/-- One byte appended to the bytes of a constant string (full, and marked): a new row. -/
theorem R_append_const {P : Program} {ops : Array Oper} {rest : List Oper} {o : Oper} {a : Act} {Q : Exit → Act → World → Prop} (hgd : o.guard = none) (s x : Operand) (ho : o.op = .call { callee := .builtin .append, args := #[s, x], argTypes := #[28, 28] })
    (hu : P.underlying 28 = some (.slice 5)) (hinfo : (P.info? 5).map (fun i => (i.zero, i.size, i.bytes)) = some (some (.int .u8 0), 1, 1)) (W0 : World) (p : Int)
    (hs : a.eval s = .slice (some ⟨W0.heap.size, 0, none⟩) 4 4) (hx : a.eval x = .slice (some ⟨W0.heap.size + 1, 0, none⟩) 1 1)
    (h : ∀ v1 w1, Kd.R (Kd.int .u8) 5 w1 W0.heap.size (fun _ => True) v1 (([80, 83, 76, 84] : List Int) ++ [p]) → Below W0.heap.size W0 w1 → wpList P ops Q rest (a.put o.dst v1) w1) :
    wpList P ops Q (o :: rest) a ((W0.alloc (.cells #[.int .u8 80, .int .u8 83, .int .u8 76, .int .u8 84] 5 (4, 5))).alloc (.cells #[.int .u8 p] 5)) := by
  obtain ⟨i, hi, hz⟩ := Option.map_eq_some_iff.1 hinfo
  simp only [Prod.mk.injEq] at hz
  obtain ⟨hz0, hz1, hz2⟩ := hz
  have hb0 : Below W0.heap.size W0 ((W0.alloc (.cells #[.int .u8 80, .int .u8 83, .int .u8 76, .int .u8 84] 5 (4, 5))).alloc (.cells #[.int .u8 p] 5)) := ((Below.refl _ _).alloc (Nat.le_refl _) _).alloc (by rw [alloc_sz]; omega) _
  have h1 : ∀ j : Nat, ((W0.alloc (.cells #[.int .u8 80, .int .u8 83, .int .u8 76, .int .u8 84] 5 (4, 5))).alloc (.cells #[.int .u8 p] 5)).cell? ⟨W0.heap.size, j, none⟩ = (#[.int .u8 80, .int .u8 83, .int .u8 76, .int .u8 84] : Array Value)[j]? := fun j => by
    rw [World.cell?_alloc_lt _ _ _ (by rw [alloc_sz]; exact Nat.lt_succ_self _)]
    exact World.cell?_alloc_mark _ _ _ _ _
  have h2 : ∀ j : Nat, ((W0.alloc (.cells #[.int .u8 80, .int .u8 83, .int .u8 76, .int .u8 84] 5 (4, 5))).alloc (.cells #[.int .u8 p] 5)).cell? ⟨W0.heap.size + 1, j, none⟩ = (#[.int .u8 p] : Array Value)[j]? := fun j => by
    have e : W0.heap.size + 1 = (W0.alloc (.cells #[.int .u8 80, .int .u8 83, .int .u8 76, .int .u8 84] 5 (4, 5))).heap.size := (alloc_sz _ _).symm
    rw [e]
    exact World.cell?_alloc_mark _ _ _ _ _
  generalize (W0.alloc (.cells #[.int .u8 80, .int .u8 83, .int .u8 76, .int .u8 84] 5 (4, 5))).alloc (.cells #[.int .u8 p] 5) = W at *
  obtain ⟨v', w', hrun, hown, hg⟩ := run_append_arg_grows (P := P) W 28 o.type 5 i (.int .u8 0) 1 1 hu hi hz0 hz1 hz2 rfl (by decide) ⟨W0.heap.size, 0, none⟩ 4 4 [.int .u8 80, .int .u8 83, .int .u8 76, .int .u8 84] rfl
    (fun j u hj => by
      have e : (⟨W0.heap.size, 0, none⟩ : Addr).add j = ⟨W0.heap.size, j, none⟩ := by unfold Addr.add; split <;> simp_all
      rw [e, h1 j]
      simpa using hj) ⟨W0.heap.size + 1, 0, none⟩ 1 1 [.int .u8 p] rfl
    (fun j u hj => by
      have e : (⟨W0.heap.size + 1, 0, none⟩ : Addr).add j = ⟨W0.heap.size + 1, j, none⟩ := by unfold Addr.add; split <;> simp_all
      rw [e, h2 j]
      simpa using hj) (by decide) (by decide) (by decide)
  have hsz := hb0.size
  have hR : Kd.R (Kd.int .u8) 5 w' W.heap.size (fun _ => True) v' (([80, 83, 76, 84] : List Int) ++ [p]) := Kd.R_of_own hown (fun _ _ => trivial)
  refine wpList_plain hgd fun K hK => ?_
  unfold Oper.wp
  simp [execOp, ho, resolve, invoke, builtin, hs, hx, hrun, Result.andThen]
  exact hK _ _ (h v' w' (Kd.R_lower hR hsz) (hb0.grown hg hsz (fun k e => by cases e)))
end Go.Proofs.Yteoclecadpapfaa.G
