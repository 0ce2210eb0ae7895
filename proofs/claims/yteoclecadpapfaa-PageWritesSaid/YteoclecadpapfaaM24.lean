/- Steps of a region that draws its order, and what stands behind changes of other blocks: the side conditions are shown by default. -/
import Derived.Test.YteoclecadpapfaaM23
namespace Go.Proofs.Yteoclecadpapfaa.G
set_option linter.unusedVariables false
open Go.RowKit Go.Proofs.YteoclecadpapfaaW.PrintWords Go.Proofs.YteoclecadpapfaaW.PrintLast Go.Proofs.YteoclecadpapfaaW.PrintMore
theorem bq {P : Prop} (h : P := by repeat (first | (with_reducible first | exact HB.out | apply Zi | apply Ze | apply Zla | refine Zm ?_ (Aside0.out (by with_reducible assumption))) | exact HB.out)) : P := h
theorem kq {P Q : Prop} (hq : Q) (h : Q → P := by intro h_; (with_reducible repeat (first | refine Zk ?_ _ | refine Zl ?_ | refine Zj ?_ _)); exact h_) : P := h hq
theorem vq {P Q : Prop} (hq : Q) (h : Q → P := by intro h_; (with_reducible repeat (first | apply Zv | apply Zu | apply Zw)); exact h_) : P := h hq
theorem nq {P Q : Prop} (hq : Q) (h : Q → P := by intro h_; (with_reducible repeat (first | apply Zs | apply Zr | apply Zt)); exact h_) : P := h hq
theorem rq {P Q : Prop} (hq : Q) (h : Q → P := by intro h_; (with_reducible repeat (first | apply Zp | apply Zo | apply Zq)); exact h_) : P := h hq
theorem sq {P Q : Prop} (hq : Q) (h : Q → P := by intro h_; (with_reducible repeat (first | apply Zy | apply Zx | apply Zz)); exact h_) : P := h hq
theorem cq {P Q : Prop} (hq : Q) (h : Q → P := by intro h_; repeat (first | exact h_ | (with_reducible refine Zba ?_ _) | (with_reducible refine Zaa ?_ _) | (with_reducible refine Zca ?_))) : P := h hq
/-- All seven cells of a block were written. -/
theorem put7 {w : World} {g : Nat} {t : TypeId} {a b c d e f h a' b' c' d' e' f' h' : Value} (H : w.heap[g]? = some (.cells #[a, b, c, d, e, f, h] t (0, 0))) :
    (((((((w.setCell ⟨g, 0, none⟩ a').setCell ⟨g, 1, none⟩ b').setCell ⟨g, 2, none⟩ c').setCell ⟨g, 3, none⟩ d').setCell ⟨g, 4, none⟩ e').setCell ⟨g, 5, none⟩ f').setCell ⟨g, 6, none⟩ h').heap[g]? = some (.cells #[a', b', c', d', e', f', h'] t (0, 0)) := by
  refine Zva (cs := #[a', b', c', d', e', f', h]) ?_ 6 _ rfl
  refine Zva (cs := #[a', b', c', d', e', f, h]) ?_ 5 _ rfl
  refine Zva (cs := #[a', b', c', d', e, f, h]) ?_ 4 _ rfl
  refine Zva (cs := #[a', b', c', d, e, f, h]) ?_ 3 _ rfl
  refine Zva (cs := #[a', b', c, d, e, f, h]) ?_ 2 _ rfl
  refine Zva (cs := #[a', b, c, d, e, f, h]) ?_ 1 _ rfl
  refine Zva (cs := #[a, b, c, d, e, f, h]) ?_ 0 _ rfl
  exact H
section
variable {P : Program} {ops : Array Oper} {Q : Exit → Act → World → Prop} {md : Region.Mode} {S : World → Prop} {ds : List Nat} {T : Bool × List (List Nat × List Nat)} {B : List Nat} {oi : Oper} {v : Value} {fuel : Nat} {l l' : Array Bool} {a a' : Act} {w : World}
theorem p1 (HT : Aside0 (rtab md ops = T)) (i n : Nat) (h : wpAnyLast P md ops Q S ds fuel l' a' w) (hi : ops[i]? = some oi := by rfl) (hl : l.setIfInBounds i true = l' := by simp only [Za, Zb, Zc]; rfl) (hN : oi.dst = some n := by rfl) (hc : anyT T l.toList l'.toList i = true := by kernel_rfl)
    (hw : Region.wanted oi (yielded ops a.tmps) = true := by rfl) (hy : ∀ w, (execOp a.eval oi).run P w = .ok (.value v) w := by intro w'; go_simp; with_reducible rfl) (ha : a.put (some n) v = a' := by simp only [Act.put, Za, Zb, Zc, i64_w, i32_w]; rfl)
    (hQ : ∀ c a w, Q (.panic c) (a.put oi.dst v) w → Q (.panic c) a w := by exact fun _ _ _ h => h) : wpAnyLast P md ops Q S ds (fuel + 1) l a w := pure_ l' hi hN (any_of HT.out hc) hQ (Or.inl ⟨hw, hy⟩) ha h
theorem p2 (HT : Aside0 (rtab md ops = T)) (HW : Aside0 (waitsOk T.2 B = true)) (hS : S w) (i n : Nat) (h : wpAnyLast P md ops Q S ds fuel l' a' w) (hi : ops[i]? = some oi := by rfl) (hl : l.setIfInBounds i true = l' := by simp only [Za, Zb, Zc]; rfl) (hN : oi.dst = some n := by rfl) (hc : takeW T B ds l.toList l'.toList i = true := by kernel_rfl)
    (hw : Region.wanted oi (yielded ops a.tmps) = true := by rfl) (hy : ∀ w, S w → (execOp a.eval oi).run P w = .ok (.value v) w := by intro w' s_; (first | (obtain ⟨s0, s1, s2, s3, s4, s5, s6⟩ := s_) | (obtain ⟨s0, s1, s2, s3, s4, s5⟩ := s_) | (obtain ⟨s0, s1, s2, s3, s4⟩ := s_) | (obtain ⟨s0, s1, s2, s3⟩ := s_) | (obtain ⟨s0, s1, s2⟩ := s_) | (obtain ⟨s0, s1⟩ := s_) | skip); go_simp; with_reducible rfl)
    (ha : a.put (some n) v = a' := by simp only [Act.put, Za, Zb, Zc, i64_w, i32_w]; rfl) (hQ : ∀ c a w, Q (.panic c) (a.put oi.dst v) w → Q (.panic c) a w := by exact fun _ _ _ h => h) : wpAnyLast P md ops Q S ds (fuel + 1) l a w := take_ l' hi hN (take_ofW HT.out HW.out hc) hQ (Or.inl ⟨hw, hy⟩) hS ha h
theorem o1 (HT : Aside0 (rtab md ops = T)) (i : Nat) (N : Option Tmp) (h : ∀ K : Act → World → Prop, Shut (∀ a' w', S w' → (S w' → wpAnyLast P md ops Q S ds fuel l' a' w') → K a' w') → if Region.wanted oi (yielded ops a.tmps) = true then Oper.wp P oi a w K Q else K (a.put N undef) w)
    (hi : ops[i]? = some oi := by rfl) (hl : l.setIfInBounds i true = l' := by simp only [Za, Zb, Zc]; rfl) (hN : oi.dst = N := by rfl) (hc : (readyT T.2 l.toList == [i] && l.toList.set i true == l'.toList) = true := by kernel_rfl) (hd : i ∉ ds := by decide) : wpAnyLast P md ops Q S ds (fuel + 1) l a w := one_ l' hi hN (one_of HT.out hc) hd h
theorem n1 (n : Nat) (h : wpAnyLast P md ops Q S ds fuel l a' w) (ha : Act.put a (some n) v = a' := by simp only [Act.put, Za, Zb, Zc, i64_w, i32_w]; rfl) : wpAnyLast P md ops Q S ds fuel l (Act.put a (some n) v) w := norm_ ha h
theorem n2 (h : wpAnyLast P md ops Q S ds fuel l a' w) (ha : a = a' := by simp only [putAll, Act.put, Za, Zb, Zc]; rfl) : wpAnyLast P md ops Q S ds fuel l a w := norm_ ha h
end
end Go.Proofs.Yteoclecadpapfaa.G
