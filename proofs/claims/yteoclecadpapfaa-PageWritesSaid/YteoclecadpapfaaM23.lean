/- The seven cells of a block that holds a page, told at once; short names for what the printed texts say often. -/
import Derived.Test.YteoclecadpapfaaG0
namespace Go.Proofs.Yteoclecadpapfaa.G
open Go.RowKit Go.Proofs.YteoclecadpapfaaW.PrintWords Go.Proofs.YteoclecadpapfaaW.PrintMore
theorem cel7 {w : World} {g : Nat} {t : TypeId} {a b c d e f h : Value} (H : w.heap[g]? = some (.cells #[a, b, c, d, e, f, h] t (0, 0))) :
    w.cell? ⟨g, 0, none⟩ = some a ∧ w.cell? ⟨g, 1, none⟩ = some b ∧ w.cell? ⟨g, 2, none⟩ = some c ∧ w.cell? ⟨g, 3, none⟩ = some d ∧ w.cell? ⟨g, 4, none⟩ = some e ∧ w.cell? ⟨g, 5, none⟩ = some f ∧ w.cell? ⟨g, 6, none⟩ = some h :=
  ⟨blk_cell H 0, blk_cell H 1, blk_cell H 2, blk_cell H 3, blk_cell H 4, blk_cell H 5, blk_cell H 6⟩
theorem blk7 {w : World} {g : Nat} {t : TypeId} {a b c d e f h : Value} (H : w.heap[g]? = some (.cells #[a, b, c, d, e, f, h] t (0, 0))) :
    w.cell? ⟨g, 0, none⟩ = some a ∧ w.cell? ⟨g, 1, none⟩ = some b ∧ w.cell? ⟨g, 2, none⟩ = some c ∧ w.cell? ⟨g, 3, none⟩ = some d ∧ w.cell? ⟨g, 4, none⟩ = some e ∧ w.cell? ⟨g, 5, none⟩ = some f ∧ w.cell? ⟨g, 6, none⟩ = some h ∧
    w.frozen? ⟨g, 0, none⟩ = false ∧ w.frozen? ⟨g, 1, none⟩ = false ∧ w.frozen? ⟨g, 2, none⟩ = false ∧ w.frozen? ⟨g, 3, none⟩ = false ∧ w.frozen? ⟨g, 4, none⟩ = false ∧ w.frozen? ⟨g, 5, none⟩ = false ∧ w.frozen? ⟨g, 6, none⟩ = false :=
  ⟨blk_cell H 0, blk_cell H 1, blk_cell H 2, blk_cell H 3, blk_cell H 4, blk_cell H 5, blk_cell H 6, blk_frozen H 0, blk_frozen H 1, blk_frozen H 2, blk_frozen H 3, blk_frozen H 4, blk_frozen H 5, blk_frozen H 6⟩
abbrev Za := @List.setIfInBounds_toArray
abbrev Zb := @List.set_cons_zero
abbrev Zc := @List.set_cons_succ
abbrev Zd := @blk_cell
abbrev Ze := @pw_below_drewN
abbrev Zf := @blk_frozen
abbrev Zg := @of_decide_eq_true
abbrev Zh := @World.block_lt_of_cell?
abbrev Zi := @below_alloc
abbrev Zj := @blk_alloc
abbrev Zk := @blk_drewN
abbrev Zl := @blk_drew
abbrev Zm := @below_set
abbrev Zn := @decide_eq_true
abbrev Zo := @Kd.R_drewN
abbrev Zp := @Kd.R_alloc
abbrev Zq := @Kd.R_drew
abbrev Zr := @Kd.N_drewN
abbrev Zs := @Kd.N_alloc
abbrev Zt := @Kd.N_drew
abbrev Zu := @Kd.V_drewN
abbrev Zv := @Kd.V_alloc
abbrev Zw := @Kd.V_drew
abbrev Zx := @Kd.S_drewN
abbrev Zy := @Kd.S_alloc
abbrev Zz := @Kd.S_drew
abbrev Zaa := @Kd.C_drewN
abbrev Zba := @Kd.C_alloc
abbrev Zca := @Kd.C_drew
abbrev Zda := @Nat.lt_of_lt_of_le
abbrev Zfa := @below_size
abbrev Zga := @List.length_take
abbrev Zha := @List.length_drop
abbrev Zia := @add_block
abbrev Zja := @eq_true
abbrev Zka := @Nat.ne_of_lt
abbrev Zla := @below_drew1
abbrev Zma := @Aside0.mk
abbrev Zna := @decide_eq_false
abbrev Zoa := @below_step
abbrev Zra := @Nat.le_refl
abbrev Zsa := @Option.bind_some
abbrev Zta := @results_ctt
abbrev Zua := @blk_far
abbrev Zva := @blk_put
abbrev Zwa := @Kd.V_mono
abbrev Zxa := @Kd.R_lower
abbrev Zya := @Kd.V_below
abbrev Zza := @Kd.R_below
abbrev Zab := @blk_below
abbrev Zbb := @cell_far
abbrev Zcb := @World.drewN_drewN
abbrev Zdb := @List.map_toArray
abbrev Zeb := @List.map_cons
abbrev Zfb := @List.map_nil
abbrev Zgb := @Option.some.inj
abbrev Zhb := @Prod.mk.injEq
abbrev Zib := @Option.some.injEq
abbrev Zjb := @Kd.V_reads'
abbrev Zkb := @Kd.R_reads'
abbrev Zlb := @Kd.N_reads'
abbrev Znb := @Kd.at_int
abbrev ZT : Bool := true
abbrev ZF : Bool := false
end Go.Proofs.Yteoclecadpapfaa.G
