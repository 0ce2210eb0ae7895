/- A page of which bits within 32, one behind the other, are turned in its parts is not taken: for every page, place and bits; beyond the bounds the law asks nothing. -/
import Derived.Test.YteoclecadpapfaaG7
import Derived.Test.YteoclecadpapfaaM18
import Derived.Test.YteoclecadpapfaaM19
namespace Go.Proofs.Yteoclecadpapfaa.Pure
open Go.RowKit Go.Proofs.Yteoclecadpapfaa.G Go.Proofs.YteoclecadpapfaaW.PrintWords Go.Proofs.YteoclecadpapfaaW.PrintLast Go.Proofs.YteoclecadpapfaaW.PrintMore

theorem w8m (fr m : Nat) (h : fr + m ≤ 1000000000) : wrap64 (8 * wrap64 (((fr + m : Nat) : Int) - (fr : Int))) = ((8 * m : Nat) : Int) := by
  have e : ((fr + m : Nat) : Int) - (fr : Int) = (m : Int) := by omega
  rw [e, wid m (by omega), wrap64_of (by omega) (by omega)]
  omega
theorem wdiv8 (x : Nat) (h : x ≤ 1000000000) : wrap64 (Int.tdiv (x : Int) 8) = ((x / 8 : Nat) : Int) := by
  rw [Int.tdiv_eq_ediv_of_nonneg (by omega), wrap64_of (by omega) (by omega)]
  omega
theorem tmod8 (x : Nat) : Int.tmod (x : Int) 8 = ((x % 8 : Nat) : Int) := by
  rw [Int.tmod_eq_emod_of_nonneg (by omega)]
  omega
theorem turned_end (t pre y : List Int) (a2 f10 f11 f13 : Int) (any : Bool) (h : any = true → page_Read.f t (pre ++ y) = some (readZ 6)) : psalterylaw18_PageTurned.j2 1 a2 t (pre ++ y) f10 f11 any f13 false = some true := by
  simp only [psalterylaw18_PageTurned.j2]
  rw [if_neg (by simp)]
  cases any with
  | false => rfl
  | true =>
    rw [if_pos rfl, h rfl, Option.bind_some]
    unfold readZ
    simp only [psalterylaw18_As.f, Option.bind_some]
    rw [same_self 0 0 false false false false [] (by simp), Option.bind_some, if_pos rfl]
    rfl
theorem turned_loop (t pre x0 : List Int) (a2 : Int) (f : Nat) (hn : pre.length + x0.length ≤ 1000000) (hf : f < 8 * x0.length) (hR : ∀ (y : List Int) (i e : Nat), i ≤ 32 → Turned x0 y f i e true → page_Read.f t (pre ++ y) = some (readZ 6)) (d : Nat) : ∀ (i e : Nat) (y : List Int) (any : Bool), i ≤ 32 → 32 - i = d → Turned x0 y f i e any →
    Ev (fun k => psalterylaw18_PageTurned.l0 k a2 t (pre ++ y) (pre.length : Int) (f : Int) any (i : Int)) true := by
  induction d with
  | zero =>
    intro i e y any hi hd ht
    refine Ev.step (f := fun k => psalterylaw18_PageTurned.j2 k a2 t (pre ++ y) (pre.length : Int) (f : Int) any (i : Int) false) (fun k => ?_) (Ev.of (fun k => (psalterylaw18_PageTurned.mono_l k).2.2 _ _ _ _ _ _ _ _) (turned_end t pre y a2 _ _ _ any (fun h => hR y i e hi (h ▸ ht))))
    simp only [psalterylaw18_PageTurned.l0]
    rw [if_neg (by omega)]
  | succ d ih =>
    intro i e y any hi hd ht
    have h32 : (i : Int) < 32 := by omega
    have hyl := ht.len
    have hlen : ((pre ++ y).length : Int) = ((pre.length + x0.length : Nat) : Int) := by rw [List.length_append, hyl]
    have hdec : decide (wrap64 ((f : Int) + (i : Int)) < wrap64 (8 * wrap64 (((pre ++ y).length : Int) - (pre.length : Int)))) = decide (f + i < 8 * x0.length) := by
      rw [hlen, w8m _ _ (by omega), wadd f i (by omega), decide_eq_decide]
      omega
    refine Ev.step (f := fun k => psalterylaw18_PageTurned.j2 k a2 t (pre ++ y) (pre.length : Int) (f : Int) any (i : Int) (decide (f + i < 8 * x0.length))) (fun k => ?_) ?_
    · simp only [psalterylaw18_PageTurned.l0]
      rw [if_pos h32, hdec]
    clear hdec
    by_cases hlt : f + i < 8 * x0.length
    · rw [decide_eq_true hlt]
      have hi0 : (0 : Int) ≤ (i : Int) := by omega
      have hk8 : (f + i) / 8 < y.length := by omega
      by_cases hb : Int.tmod (shr .u32 a2 (i : Int)) 2 = 1
      · have H := ih (i + 1) _ _ _ (by omega) (by omega) (ht.bit ((f + i) / 8) ((f + i) % 8) (by omega) (by omega) (by omega))
        have h3 : (0 : Int) ≤ ((pre.length + (f + i) / 8 : Nat) : Int) := by omega
        have h4 : ((pre.length + (f + i) / 8 : Nat) : Int) < ((pre ++ y).length : Int) := by rw [List.length_append]; omega
        have h5 : (0 : Int) ≤ (((f + i) % 8 : Nat) : Int) := by omega
        have e6 : rd (pre ++ y) ((pre.length + (f + i) / 8 : Nat) : Int) = rd y (((f + i) / 8 : Nat) : Int) := by
          unfold rd
          rw [Int.toNat_natCast, Int.toNat_natCast, List.getD_eq_getElem?_getD, List.getD_eq_getElem?_getD, List.getElem?_append_right (by omega), show pre.length + (f + i) / 8 - pre.length = (f + i) / 8 by omega]
        have e7 : ∀ v, (pre ++ y).set (pre.length + (f + i) / 8) v = pre ++ y.set ((f + i) / 8) v := fun v => by
          rw [List.set_append_right _ _ (by omega), show pre.length + (f + i) / 8 - pre.length = (f + i) / 8 by omega]
        refine Ev.step (fun k => ?_) H
        simp only [psalterylaw18_PageTurned.j2, if_true]
        rw [if_pos hi0, if_pos hb, wadd f i (by omega), wdiv8 _ (by omega), wadd _ _ (by omega), tmod8, if_pos h3, if_pos h4, if_pos h5, Int.toNat_natCast, e6, e7, wsucc i (by omega)]
      · refine Ev.step (fun k => ?_) (ih (i + 1) _ _ _ (by omega) (by omega) ht.skip)
        simp only [psalterylaw18_PageTurned.j2, if_true]
        rw [if_pos hi0, if_neg hb, wsucc i (by omega)]
    · rw [decide_eq_false hlt]
      exact Ev.of (fun k => (psalterylaw18_PageTurned.mono_l k).2.2 _ _ _ _ _ _ _ _) (turned_end t pre y a2 _ _ _ any (fun h => hR y i e hi (h ▸ ht)))
theorem turned_j0 (t pre x0 : List Int) (a1 a2 : Int) (h0 : okB x0) (h22 : 22 ≤ pre.length) (hn : pre.length + x0.length ≤ 1000000) (hrd : rd (pre ++ x0) 21 = ((pre.length - 22 : Nat) : Int)) (hR : ∀ f, f < 8 * x0.length → ∀ (y : List Int) (i e : Nat), i ≤ 32 → Turned x0 y f i e true → page_Read.f t (pre ++ y) = some (readZ 6)) :
    Ev (fun k => psalterylaw18_PageTurned.j0 k a1 a2 t (pre ++ x0) 0 false) true := by
  have hlen : ((pre ++ x0).length : Int) = ((pre.length + x0.length : Nat) : Int) := by rw [List.length_append]
  have efrom : Aside0 (wrap64 (22 + wrap64 (rd (pre ++ x0) 21)) = (pre.length : Int)) := ⟨by
    rw [hrd, wid _ (by omega)]
    have := wadd 22 (pre.length - 22) (by omega)
    rw [show ((22 : Nat) : Int) = 22 from rfl] at this
    rw [this]
    omega⟩
  have g21 : (21 : Int) < ((pre ++ x0).length : Int) := by rw [hlen]; omega
  by_cases hz : x0.length = 0
  · have g1 : (pre.length : Int) ≥ ((pre ++ x0).length : Int) := by rw [hlen]; omega
    refine Ev.step (f := fun _ => some true) (fun k => ?_) (Ev.now _)
    simp only [psalterylaw18_PageTurned.j0]
    rw [if_neg (by simp), if_pos g21, efrom.out, if_pos g1]
    rfl
  · have g1 : ¬ (pre.length : Int) ≥ ((pre ++ x0).length : Int) := by rw [hlen]; omega
    have hw : ∀ y : Int, IntKind.u64.wrap y = y % 18446744073709551616 := fun y => by simp [IntKind.wrap, IntKind.bits, IntKind.signed]
    have e3 : IntKind.u64.wrap ((8 * x0.length : Nat) : Int) = ((8 * x0.length : Nat) : Int) := by rw [hw]; omega
    have hx : 0 ≤ IntKind.u64.wrap a1 := by rw [hw]; omega
    have e4 : Int.tmod (IntKind.u64.wrap a1) ((8 * x0.length : Nat) : Int) = IntKind.u64.wrap a1 % ((8 * x0.length : Nat) : Int) := Int.tmod_eq_emod_of_nonneg hx
    have h5 := Int.emod_nonneg (IntKind.u64.wrap a1) (b := ((8 * x0.length : Nat) : Int)) (by omega)
    have h6 := Int.emod_lt_of_pos (IntKind.u64.wrap a1) (b := ((8 * x0.length : Nat) : Int)) (by omega)
    obtain ⟨f, hf⟩ := Int.eq_ofNat_of_zero_le h5
    rw [hf] at h6
    have hf8 : f < 8 * x0.length := by omega
    have g7 : ¬ ((8 * x0.length : Nat) : Int) = 0 := by omega
    refine Ev.step (f := fun k => psalterylaw18_PageTurned.l0 k a2 t (pre ++ x0) (pre.length : Int) (f : Int) false 0) (fun k => ?_) (turned_loop t pre x0 a2 f hn hf8 (hR f hf8) _ 0 0 x0 false (by omega) rfl (Turned.start h0 f))
    simp only [psalterylaw18_PageTurned.j0]
    rw [if_neg (by simp), if_pos g21, efrom.out, if_neg g1, hlen, w8m _ _ (by omega), e3, if_neg g7, e4, hf, wid f (by omega)]
theorem PageTurned (s g : Int) (fi la co mo : Bool) (p : List (List Int)) (a1 a2 : Int) (hp : okP p) : ∃ k, psalterylaw18_PageTurned.f k s g fi la co mo p a1 a2 = some true := by
  have htl : ∀ f, f ≤ 8 * p.flatten.length → TellsB tabL (pageFront s g fi la co mo p 0) p.flatten f := fun f hf => tabL_tellsB _ _ f (okB_flatten p hp) hf
  obtain ⟨t, ht⟩ : ∃ t, t = tabL := ⟨_, rfl⟩
  have hT : sums_Table.f = some t := by rw [ht]; rfl
  have hl0 : t.length = 256 := by rw [ht]; exact tabL_length
  rw [← ht] at htl
  clear ht
  unfold psalterylaw18_PageTurned.f psalterylaw18_great.f
  simp only [Option.bind_some]
  cases hg : greatB p with
  | true => exact ⟨0, rfl⟩
  | false =>
    simp only [Bool.false_eq_true, if_false, hT, Option.bind_some, page_Write_eq t s g fi la co mo p hg]
    obtain ⟨hs, hfl⟩ := greatB_small p hg
    by_cases hr : pageRight s g mo p = true ∧ t.length = 256
    · have hL := ((pageRight_iff ..).mp hr.1).2.2.2.2.1
      have hpl := pageFront_length s g fi la co mo p (pageSumOf t s g fi la co mo p)
      have hbytes : pageBytes t s g fi la co mo p = pageFront s g fi la co mo p (pageSumOf t s g fi la co mo p) ++ p.flatten := pageFront_with ..
      have hlen := pageBytes_length t s g fi la co mo p
      have hb : decide (((pageBytes t s g fi la co mo p).length : Int) < 22) = false := decide_eq_false (by omega)
      have hrd : rd (pageFront s g fi la co mo p (pageSumOf t s g fi la co mo p) ++ p.flatten) 21 = (((pageFront s g fi la co mo p (pageSumOf t s g fi la co mo p)).length - 22 : Nat) : Int) := by
        rw [← hbytes, hpl]
        unfold pageBytes
        rw [rd21, show 22 + (lacesL mo p).length - 22 = (lacesL mo p).length by omega]
      have hEv := turned_j0 t (pageFront s g fi la co mo p (pageSumOf t s g fi la co mo p)) p.flatten a1 a2 (okB_flatten p hp) (by omega) (by omega) hrd (fun f hf y i e hi hty => by
        have hlen' := hty.len
        have h6 := read_turned t s g fi la co mo p y hlen' hr.1 (fun he => by
          have := (htl f (by omega) y i e true hi hty).mp he
          cases this)
        have hok8 : okB (pageFront s g fi la co mo p (pageSumOf t s g fi la co mo p) ++ y) := by
          rw [pageFront_other s g fi la co mo p _ y hlen']
          have hm := splitLike_map p y hlen'
          exact okB_with s g fi la co mo _ _ (okP_of_flatten _ (by rw [splitLike_flatten p y hlen']; exact hty.ok)) (by rw [laces_map mo _ _ hm]; exact hL)
        have hln8 : (pageFront s g fi la co mo p (pageSumOf t s g fi la co mo p) ++ y).length ≤ 1000000 := by rw [List.length_append]; omega
        unfold page_Read.f
        rw [if_pos ⟨hok8, hln8⟩, if_pos hl0, h6])
      obtain ⟨k, hk⟩ := hEv.rounds
      refine ⟨k, ?_⟩
      rw [if_pos hr]
      show (if (0 : Int) = 0 then psalterylaw18_PageTurned.j0 k a1 a2 t (pageBytes t s g fi la co mo p) 0 (decide (((pageBytes t s g fi la co mo p).length : Int) < 22)) else _) = some true
      rw [if_pos rfl, hb, hbytes]
      exact hk
    · refine ⟨1, ?_⟩
      rw [if_neg hr]
      rfl
end Go.Proofs.Yteoclecadpapfaa.Pure
