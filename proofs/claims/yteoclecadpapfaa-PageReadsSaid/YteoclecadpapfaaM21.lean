/- What reading by the document answers is what reading by the program answers: the parts, told and laced again. -/
import Derived.Test.YteoclecadpapfaaM20
import Derived.Laws.Strings
namespace Go.Proofs.Yteoclecadpapfaa.G
open Go.RowKit Go.Proofs.YteoclecadpapfaaW.PrintWords Go.Proofs.YteoclecadpapfaaW.PrintMore
theorem strOf_inj {x y : List Int} (hx : okB x) (hy : okB y) (h : (strOfNums x).toList = (strOfNums y).toList) : x = y := by
  have h1 : strOfNums x = strOfNums y := by
    have e : ∀ a : ByteArray, a.toList = a.data.toList := fun a => ByteArray.toList_eq a
    rw [e, e] at h
    unfold strOfNums at h ⊢
    simp only [ByteArray.mk.injEq]
    exact Array.toList_inj.mp h
  have h2 : (x.map fun n => UInt8.ofNat n.toNat) = (y.map fun n => UInt8.ofNat n.toNat) := by
    rw [← strOfNums_data, ← strOfNums_data, h1]
  clear h h1
  induction x generalizing y with
  | nil =>
    cases y with
    | nil => rfl
    | cons b y => simp at h2
  | cons a x ih =>
    cases y with
    | nil => simp at h2
    | cons b y =>
      simp only [List.map_cons, List.cons.injEq] at h2
      have ha := hx a (by simp)
      have hb := hy b (by simp)
      have e : a = b := by
        have := congrArg UInt8.toNat h2.1
        simp only [UInt8.toNat_ofNat'] at this
        omega
      rw [e, ih (fun z hz => hx z (by simp [hz])) (fun z hz => hy z (by simp [hz])) h2.2]
/-- Parts are told by as many bytes as the laces say. -/
theorem partsGo_take (l : List Int) : ∀ (b : List Int) (n m : Nat) (o : Bool), n + sumL l ≤ m → partsGo l (b.take m) n o = partsGo l b n o := by
  induction l with
  | nil =>
    intro b n m o h
    rw [sumL] at h
    rw [partsGo, partsGo, List.take_take, Nat.min_eq_left (by omega)]
  | cons x l ih =>
    intro b n m o h
    rw [sumL] at h
    rw [partsGo, partsGo]
    by_cases hx : x = 255
    · rw [if_pos hx, if_pos hx, ih b (n + x.toNat) m true (by omega)]
    · rw [if_neg hx, if_neg hx, List.take_take, Nat.min_eq_left (by omega), List.drop_take, ih (b.drop (n + x.toNat)) 0 (m - (n + x.toNat)) false (by omega)]
/-- The parts told from laces, laced again; their bytes. -/
theorem partsGo_back (l : List Int) (hok : okB l) : ∀ (b : List Int) (q : Nat) (o : Bool), 255 * q + sumL l ≤ b.length → (o = true ↔ 0 < q) →
    lacesL (partsGo l b (255 * q) o).2 (partsGo l b (255 * q) o).1 = List.replicate q 255 ++ l ∧ (partsGo l b (255 * q) o).1.flatten = b.take (255 * q + sumL l) ∧ (partsGo l b (255 * q) o).1.length ≤ l.length + 1 ∧ (∀ c ∈ (partsGo l b (255 * q) o).1, c.length ≤ 255 * q + 255 * l.length) ∧
    ((partsGo l b (255 * q) o).2 = true → (partsGo l b (255 * q) o).1 ≠ []) := by
  induction l with
  | nil =>
    intro b q o hb ho
    rw [sumL] at hb ⊢
    rw [partsGo]
    cases o with
    | true =>
      have hq := ho.mp rfl
      have hl : (b.take (255 * q)).length = 255 * q := by rw [List.length_take]; omega
      rw [if_pos rfl]
      refine ⟨?_, by simp, by simp, ?_, fun _ => by simp⟩
      · simp only [lacesL]
        rw [if_pos ⟨trivial, trivial⟩, hl, laceO, Nat.mul_div_cancel_left q (by decide)]
      · intro c hc
        rw [List.mem_singleton] at hc
        rw [hc, hl]
        omega
    | false =>
      have hq : q = 0 := by
        rcases Nat.eq_zero_or_pos q with h | h
        · exact h
        · exact absurd (ho.mpr h) (by simp)
      subst hq
      rw [if_neg (by simp)]
      exact ⟨rfl, by simp, by simp, (fun c hc => absurd hc (by simp)), (fun h => absurd h (by simp))⟩
  | cons x l ih =>
    intro b q o hb ho
    rw [sumL] at hb
    have hx := hok x (by simp)
    have hok' : okB l := fun y hy => hok y (by simp [hy])
    rw [partsGo]
    by_cases h255 : x = 255
    · have e : 255 * q + x.toNat = 255 * (q + 1) := by rw [h255]; have : Int.toNat 255 = 255 := rfl; omega
      obtain ⟨i1, i2, i3, i4, i5⟩ := ih hok' b (q + 1) true (by omega) ⟨fun _ => by omega, fun _ => rfl⟩
      rw [if_pos h255, e]
      refine ⟨?_, ?_, by simp only [List.length_cons]; omega, fun c hc => ?_, i5⟩
      · rw [i1, List.replicate_succ', List.append_assoc, h255]
        rfl
      · rw [i2, sumL]
        congr 1
        omega
      · have := i4 c hc
        simp only [List.length_cons]
        omega
    · rw [if_neg h255]
      obtain ⟨m, hm⟩ : ∃ m, 255 * q + x.toNat = m := ⟨_, rfl⟩
      rw [hm]
      have hml : (b.take m).length = m := by rw [List.length_take]; omega
      obtain ⟨i1, i2, i3, i4, i5⟩ := ih hok' (b.drop m) 0 false (by rw [List.length_drop]; omega) ⟨(fun h => absurd h (by simp)), (fun h => absurd h (by omega))⟩
      rw [Nat.mul_zero] at i1 i2 i3 i4 i5
      rw [List.replicate_zero, List.nil_append] at i1
      rw [Nat.zero_add] at i2
      have hC : laceC m = List.replicate q 255 ++ [x] := by
        have d1 : m / 255 = q := by omega
        have d2 : ((m % 255 : Nat) : Int) = x := by omega
        rw [laceC, laceO, d1, d2]
      refine ⟨?_, ?_, by simp only [List.length_cons]; omega, fun c hc => ?_, fun _ => by simp⟩
      · simp only [lacesL]
        rw [if_neg (fun h => i5 h.1 h.2), hml, hC, i1, List.append_assoc]
        rfl
      · rw [List.flatten_cons, i2, sumL, ← List.take_add]
        congr 1
        omega
      · rcases List.mem_cons.mp hc with rfl | hc
        · rw [hml]
          simp only [List.length_cons]
          omega
        · have := i4 c hc
          simp only [List.length_cons]
          omega
end Go.Proofs.Yteoclecadpapfaa.G
